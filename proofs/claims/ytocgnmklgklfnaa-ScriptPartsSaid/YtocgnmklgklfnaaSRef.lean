/- The reference's Check of a step. -/
import Derived.Test.YtocgnmklgklfnaaSByt
set_option linter.unusedSimpArgs false
set_option linter.unusedVariables false
namespace Go.Proofs.Ytocgnmklgklfnaa.A
open Go Go.RowKit
/-- A place of an array of the call's own. -/
theorem Pu_indexArr {P : Program} {st : ASt} {o : Oper} {t e : TypeId} {x i : Operand} {k g off n len j : Nat} {z : Int} (ho : o.op = .indexAddr t x i) (ht : P.underlying t = some (.array len e)) (hz : ∀ w, (sizeOf e).run P w = .ok n w) (hx : st.ev x = .bx k g off) (hi : st.ev i = .d (.v (.int .i64 z))) (hk : z = j) (hj : j < len) : Pu P st o (.bx k g (off + j * n)) := Pu_q fun B M ρ w a h2 _ => by
  have m : x ∈ opsOf o ∧ i ∈ opsOf o := by simp [opsOf, ho, Op.operands]
  obtain ⟨e2, _⟩ := ev_v h2 m.2 hi
  have hm := h2 x m.1
  rw [hx] at hm
  obtain ⟨y, b, h3, h4, h5⟩ := hm
  refine ⟨.pointer (some ⟨b, off + j * n, none⟩), ?_, y, b, h3, h4, rfl⟩
  subst hk
  simp only [execOp, ho, h5, e2, Instr.indexAt, Instr.sureAddr, Sem.run_bind, asIntOf, Sem.run_pure, Result.andThen_ok, run_underlying ht]
  rw [if_pos ⟨by omega, by omega⟩]
  simp only [Sem.run_bind, hz, Result.andThen_ok, Int.toNat_natCast, add_addr, Sem.run_pure]
/-- An array, built of its parts. -/
theorem Pu_buildArr {P : Program} {st : ASt} {o : Oper} {t e : TypeId} {len n : Nat} {ps : Array (Nat × Operand)} {aa : List (Nat × AV)} {zs : List Value} {r : List AV} (ho : o.op = .build t ps) (ht : P.underlying t = some (.array len e)) (hz : ∀ w, (zeroValue t).run P w = .ok (.agg zs.toArray) w)
    (hs : ∀ w, (sizeOf e).run P w = .ok n w) (hv : zs.all (fun z => decide (vok z)) = true) (ha : PartsOk st ps.toList aa) (hr : fillA (fun i => some (i * n, n)) (zs.map .v) aa = some r) : Pu P st o (.d (.row r)) := Pu_q fun B M ρ w a h2 _ => by
  obtain ⟨us, h3, h4⟩ := run_fill (M := M) (w := w) (ρ := ρ) (a := a) (fun i => some (i * n, n)) ps.toList aa _ r zs.toArray ha (fun p hp => h2 p.2 (by
    simp only [opsOf, ho, Op.operands]
    exact List.mem_map.2 ⟨p, hp, rfl⟩)) (cells_v hv) hr
  refine ⟨.agg us, ?_, h4.row⟩
  have e : (ps.map fun (p : Nat × Operand) => (p.1, a.eval p.2)).toList = ps.toList.map fun (i, x) => (i, a.eval x) := by simp
  simp only [execOp, ho, Instr.build, Sem.run_bind, hz, Result.andThen_ok, run_underlying ht, hs, Value.cells]
  rw [e]
  simp only [h3, Sem.run_pure, Sem.run_bind, Result.andThen_ok]
end Go.Proofs.Ytocgnmklgklfnaa.A
namespace Go.Proofs.Ytocgnmklgklfnaa
open Go.RowKit A R
namespace S
def five (o : SOp) : List Int := [o.client, o.site, o.to', o.at', o.how]
theorem get5 {o : SOp} {j : Nat} (h : j < 5) : (List.map SV.d [iv o.client, iv o.site, iv o.to', iv o.at', iv o.how])[0 + j * 1]? = some (.d (iv ((five o).getD j 0))) := by
  have : j = 0 ∨ j = 1 ∨ j = 2 ∨ j = 3 ∨ j = 4 := by omega
  rcases this with rfl | rfl | rfl | rfl | rfl <;> rfl
theorem five_at {o : SOp} {j : Nat} (h : j < 5) : (five o).getD j 0 = (five o)[j]'h := by
  rw [List.getD_eq_getElem?_getD, List.getElem?_eq_getElem (show j < (five o).length from h)]; rfl
theorem check_wild {o : SOp} (h : (five o).any wild = true) : check o = false := by
  have hn : (numbers o).any wild = true := by
    show (wild o.kind || (five o).any wild) = true
    rw [h, Bool.or_true]
  unfold check
  rw [hn]; simp
theorem check_long {o : SOp} (h : o.keys.any long = true) : check o = false := by
  unfold check
  rw [h]; simp
theorem check_ref {o : SOp} (h1 : (five o).any wild = false) (h2 : o.keys.any long = false) : (rowOk o.c && decide (1 ≤ o.kind) && decide (o.kind ≤ 12) && decide ((o.key.size : Int) ≤ 32) && decide ((o.value.size : Int) ≤ 32) && decide ((o.keys.length : Int) ≤ 8)) = check o := by
  have hn : (numbers o).any wild = wild o.kind := by
    show (wild o.kind || (five o).any wild) = _
    rw [h1, Bool.or_false]
  unfold check
  rw [hn, h2, Bool.eq_iff_iff]
  simp only [Bool.and_eq_true, decide_eq_true_eq, Bool.not_eq_true', Bool.not_false, wild, long, Bool.or_eq_false_iff, decide_eq_false_iff_not]
  constructor
  · rintro ⟨⟨⟨⟨⟨a, b⟩, c⟩, d⟩, e⟩, f⟩
    exact ⟨⟨⟨⟨⟨⟨⟨b, c⟩, by omega, by omega⟩, by omega⟩, trivial⟩, by omega⟩, by omega⟩, a⟩
  · rintro ⟨⟨⟨⟨⟨⟨⟨b, c⟩, _⟩, f⟩, _⟩, d⟩, e⟩, a⟩
    exact ⟨⟨⟨⟨⟨a, b⟩, c⟩, by omega⟩, by omega⟩, by omega⟩
end S
set_option maxRecDepth 100000 in
theorem srow_a (c : SRow) (h1 : c.ranges.length ≤ 1000000) (h2 : c.owners.length ≤ 1000000) (h3 : c.parents.length ≤ 1000000) : ACall Try.prog 25 [.row c.row] (bv (S.rowOk c)) := by
  refine ACall_enter (fun _ _ => by kernel_rfl) Try.func25 rfl Try.ntmps25 Try.results25 (Nat.le_of_ble_eq_true rfl) (fun hok M0 w0 => ?_)
  refine Aw_seq ?_
  refine Aw_region ?_
  refine Al_pu (Pu_boxN rfl rfl) rfl rfl (by decide) (by kernel_rfl) ?_
  refine Al_pu (Pu_move (.inr rfl) (by conv => lhs; whnf)) rfl rfl (by decide) (by kernel_rfl) ?_
  refine Al_nil ?_
  refine Aw_seq ?_
  refine Aw_seq ?_
  refine Aw_region ?_
  refine Al_pu (Pu_field 0 rfl Try.underlying28 rfl rfl Try.sizeOf25 rfl) rfl rfl (by decide) (by kernel_rfl) ?_
  refine Al_pu (Pu_load1 rfl Try.isAgg25 rfl rfl) rfl rfl (by decide) (by kernel_rfl) ?_
  refine Al_pu (Pu_len rfl Try.underlying25 rfl (by first | exact List.length_map .. | exact rfl)) rfl rfl (by decide) (by kernel_rfl) ?_
  refine Al_pu (Pu_field 1 rfl Try.underlying28 rfl rfl Try.sizeOf26 rfl) rfl rfl (by decide) (by kernel_rfl) ?_
  refine Al_pu (Pu_load1 rfl Try.isAgg26 rfl rfl) rfl rfl (by decide) (by kernel_rfl) ?_
  refine Al_pu (Pu_len rfl Try.underlying26 rfl (by first | exact List.length_map .. | exact rfl)) rfl rfl (by decide) (by kernel_rfl) ?_
  refine Al_pu (Pu_add rfl rfl rfl (fun h1 h2 => by simp only [A.inI, A.maxI] at *; omega)) rfl rfl (by decide) (by kernel_rfl) ?_
  refine Al_pu (Pu_field 2 rfl Try.underlying28 rfl rfl Try.sizeOf26 rfl) rfl rfl (by decide) (by kernel_rfl) ?_
  refine Al_pu (Pu_load1 rfl Try.isAgg26 rfl rfl) rfl rfl (by decide) (by kernel_rfl) ?_
  refine Al_pu (Pu_len rfl Try.underlying26 rfl (by first | exact List.length_map .. | exact rfl)) rfl rfl (by decide) (by kernel_rfl) ?_
  refine Al_pu (Pu_add rfl rfl rfl (fun h1 h2 => by simp only [A.inI, A.maxI] at *; omega)) rfl rfl (by decide) (by kernel_rfl) ?_
  refine Al_pu (Pu_cmp rfl rfl rfl rfl) rfl rfl (by decide) (by kernel_rfl) ?_
  refine Al_nil ?_
  refine Aw_cond rfl (fun h14 => ?_) (fun h14 => ?_)
  · skip
    have he : S.empty c = true := by
      have := of_decide_eq_true h14
      exact decide_eq_true (by omega)
    refine Aw_seq ?_
    refine Aw_region ?_
    refine Al_pu (Pu_move (.inr rfl) (by conv => lhs; whnf)) rfl rfl (by decide) (by kernel_rfl) ?_
    refine Al_nil ?_
    refine Aw_ret ?_
    exact Sub.bool (by unfold S.rowOk; rw [he]; rfl) -- ret 0
  · skip
    have he : S.empty c = false := by
      have := of_decide_eq_false h14
      exact decide_eq_false (by omega)
    refine Aw_skip ?_
    refine Aw_seq ?_
    refine Aw_region ?_
    refine Al_pu (Pu_loadN rfl Try.isAgg28 Try.sizeOf28 rfl (Nat.le_of_ble_eq_true rfl)) rfl rfl (by decide) (by kernel_rfl) ?_
    refine Al_pu (Pu_call (srowcheck_a c) rfl ⟨Sub.rfl, trivial⟩) rfl rfl (by decide) (by kernel_rfl) ?_
    refine Al_pu (Pu_move (.inr rfl) (by conv => lhs; whnf)) rfl rfl (by decide) (by kernel_rfl) ?_
    refine Al_nil ?_
    refine Aw_ret ?_
    exact Sub.bool (by unfold S.rowOk; rw [he]; rfl) -- ret 1
set_option maxRecDepth 100000 in
theorem srcheck_a (o : SOp) (hf : S.fits o) : ACall Try.prog 11 [.row o.row] (bv (S.check o)) := by
  refine ACall_enter (fun _ _ => by kernel_rfl) Try.func11 rfl Try.ntmps11 Try.results11 (Nat.le_of_ble_eq_true rfl) (fun hok M0 w0 => ?_)
  have hr := (hok _ (List.mem_cons_self ..)).row
  have l0 := (hr (.sl 1 (o.keys.map fun s => [tv s])) (by simp [SOp.row])).len
  rw [List.length_map] at l0
  refine Aw_seq ?_
  refine Aw_region ?_
  refine Al_pu (Pu_boxN rfl rfl) rfl rfl (by decide) (by kernel_rfl) ?_
  refine Al_pu (Pu_move (.inr rfl) (by conv => lhs; whnf)) rfl rfl (by decide) (by kernel_rfl) ?_
  refine Al_nil ?_
  refine Aw_seq ?_
  refine Aw_region ?_
  refine Al_pu (Pu_field 1 rfl Try.underlying30 rfl rfl Try.sizeOf3 rfl) rfl rfl (by decide) (by kernel_rfl) ?_
  refine Al_pu (Pu_load1 rfl Try.isAgg3 rfl rfl) rfl rfl (by decide) (by kernel_rfl) ?_
  refine Al_pu (Pu_field 2 rfl Try.underlying30 rfl rfl Try.sizeOf3 rfl) rfl rfl (by decide) (by kernel_rfl) ?_
  refine Al_pu (Pu_load1 rfl Try.isAgg3 rfl rfl) rfl rfl (by decide) (by kernel_rfl) ?_
  refine Al_pu (Pu_field 3 rfl Try.underlying30 rfl rfl Try.sizeOf3 rfl) rfl rfl (by decide) (by kernel_rfl) ?_
  refine Al_pu (Pu_load1 rfl Try.isAgg3 rfl rfl) rfl rfl (by decide) (by kernel_rfl) ?_
  refine Al_pu (Pu_field 4 rfl Try.underlying30 rfl rfl Try.sizeOf3 rfl) rfl rfl (by decide) (by kernel_rfl) ?_
  refine Al_pu (Pu_load1 rfl Try.isAgg3 rfl rfl) rfl rfl (by decide) (by kernel_rfl) ?_
  refine Al_pu (Pu_field 5 rfl Try.underlying30 rfl rfl Try.sizeOf3 rfl) rfl rfl (by decide) (by kernel_rfl) ?_
  refine Al_pu (Pu_load1 rfl Try.isAgg3 rfl rfl) rfl rfl (by decide) (by kernel_rfl) ?_
  refine Al_pu (Pu_buildArr (aa := [(0, _), (1, _), (2, _), (3, _), (4, _)]) rfl Try.underlying54 Try.zeroValue54 Try.sizeOf3 (by kernel_rfl) ⟨rfl, rfl, rfl, rfl, rfl, rfl, rfl, rfl, rfl, rfl, rfl, rfl, rfl, rfl, rfl, trivial⟩ rfl) rfl rfl (by decide) (by kernel_rfl) ?_
  refine Al_alloc rfl rfl rfl (by decide) Try.zeroValue54 rfl (by kernel_rfl) (fun g3 => ?_)
  refine Al_storeN rfl rfl rfl (by kernel_rfl) Try.isAgg54 Try.sizeOf54 rfl rfl rfl rfl (Nat.le_of_ble_eq_true rfl) ?_
  refine Al_nil ?_
  refine Aw_seq ?_
  refine Aw_seq ?_
  refine Aw_region ?_
  refine Al_pu (Pu_move (.inr rfl) (by conv => lhs; whnf)) rfl rfl (by decide) (by kernel_rfl) ?_
  refine Al_nil ?_
  refine Aw_block ?_
  refine Aw_loopk (ι := Nat) [1, 3] [3] (fun j => [(4, .d (iv j))]) (fun j => []) (fun j => j ≤ 5 ∧ ((S.five o).take j).any S.wild = false) (fun j => 5 - j) (0) (⟨Nat.zero_le _, by simp⟩) ⟨Sub.rfl, trivial⟩ trivial ?_
  rintro j ⟨hk0, hno⟩
  refine Aw_seq ?_
  refine Aw_seq ?_
  refine Aw_region ?_
  refine Al_pu (Pu_move (.inl rfl) (by conv => lhs; whnf)) rfl rfl (by decide) (by kernel_rfl) ?_
  refine Al_pu (Pu_cmp rfl rfl rfl rfl) rfl rfl (by decide) (by kernel_rfl) ?_
  refine Al_nil ?_
  refine Aw_cond rfl (fun h19 => ?_) (fun h19 => ?_)
  · (try simp only [decide_eq_true_eq, decide_eq_false_iff_not, Bool.and_eq_true, Bool.or_eq_true, Bool.and_eq_false_iff, Bool.or_eq_false_iff, Bool.not_eq_true', Bool.not_eq_false', beq_iff_eq, Bool.not_eq_eq_eq_not, Bool.not_true, Bool.not_false, List.length_map, Bool.and_true, Bool.and_false, Bool.false_and, Bool.true_and, Bool.or_false, Bool.false_or] at h19)
    have hj : j < 5 := by omega
    refine Aw_skip ?_
    refine Aw_seq ?_
    refine Aw_block ?_
    refine Aw_seq ?_
    refine Aw_region ?_
    refine Al_pu (Pu_move (.inl rfl) (by conv => lhs; whnf)) rfl rfl (by decide) (by kernel_rfl) ?_
    refine Al_pu (Pu_indexArr rfl Try.underlying54 Try.sizeOf3 rfl rfl rfl hj) rfl rfl (by decide) (by kernel_rfl) ?_
    refine Al_pu (Pu_loadb rfl Try.isAgg3 rfl rfl (S.get5 hj)) rfl rfl (by decide) (by kernel_rfl) ?_
    refine Al_pu (Pu_cmp rfl rfl rfl rfl) rfl rfl (by decide) (by kernel_rfl) ?_
    refine Al_pu (Pu_move (.inl rfl) (by conv => lhs; whnf)) rfl rfl (by decide) (by kernel_rfl) ?_
    refine Al_st (St_gd [] rfl rfl rfl rfl trivial (fun hg27 => by exact Pu_move (.inl rfl) (by conv => lhs; whnf))) rfl (by decide) (by kernel_rfl) (by intro j b oj dj h1 h2 h3; cases h1; cases h2; cases h3; decide) ?_
    refine Al_st (St_gd [27] rfl rfl rfl rfl ⟨⟨_, rfl⟩, trivial⟩ (fun hg28 => Pu_indexArr rfl Try.underlying54 Try.sizeOf3 rfl rfl rfl hj)) rfl (by decide) (by kernel_rfl) (by intro j b oj dj h1 h2 h3; cases h1; cases h2; cases h3; decide) ?_
    refine Al_st (St_gd [28] rfl rfl rfl rfl ⟨⟨_, rfl⟩, trivial⟩ (fun hg29 => Pu_loadb rfl Try.isAgg3 rfl rfl (S.get5 hj))) rfl (by decide) (by kernel_rfl) (by intro j b oj dj h1 h2 h3; cases h1; cases h2; cases h3; decide) ?_
    refine Al_st (St_gd [29] rfl rfl rfl rfl ⟨⟨_, rfl⟩, trivial⟩ (fun hg30 => Pu_cmp rfl rfl rfl rfl)) rfl (by decide) (by kernel_rfl) (by intro j b oj dj h1 h2 h3; cases h1; cases h2; cases h3; decide) ?_
    refine Al_pu (Pu_or rfl rfl rfl rfl) rfl rfl (by decide) (by kernel_rfl) ?_
    refine Al_nil ?_
    refine Aw_cond rfl (fun h31 => ?_) (fun h31 => ?_)
    · skip
      have hb : S.wild ((S.five o)[j]'hj) = true := by rw [← S.five_at hj]; exact h31
      refine Aw_seq ?_
      refine Aw_region ?_
      refine Al_pu (Pu_move (.inr rfl) (by conv => lhs; whnf)) rfl rfl (by decide) (by kernel_rfl) ?_
      refine Al_nil ?_
      refine Aw_ret ?_
      exact Sub.bool (S.check_wild (S.any_at hj hb)).symm -- ret 0
    · skip
      have hb : S.wild ((S.five o)[j]'hj) = false := by rw [← S.five_at hj]; exact h31
      refine Aw_skip ?_
      refine Aw_region ?_
      refine Al_pu (Pu_move (.inl rfl) (by conv => lhs; whnf)) rfl rfl (by decide) (by kernel_rfl) ?_
      refine Al_pu (Pu_add rfl rfl rfl (fun h1 h2 => by simp only [A.inI, A.maxI] at *; omega)) rfl rfl (by decide) (by kernel_rfl) ?_
      refine Al_pu (Pu_move (.inr rfl) (by conv => lhs; whnf)) rfl rfl (by decide) (by kernel_rfl) ?_
      refine Al_nil ?_
      exact ⟨j + 1, ⟨by omega, S.any_snoc hj hno hb⟩, by omega, Le.ov ⟨Sub.num (by omega), trivial⟩ ⟨Sub.rfl, Sub.rfl, trivial⟩ trivial ⟨rfl, trivial⟩⟩ -- loop 0 next.0
  · (try simp only [decide_eq_true_eq, decide_eq_false_iff_not, Bool.and_eq_true, Bool.or_eq_true, Bool.and_eq_false_iff, Bool.or_eq_false_iff, Bool.not_eq_true', Bool.not_eq_false', beq_iff_eq, Bool.not_eq_eq_eq_not, Bool.not_true, Bool.not_false, List.length_map, Bool.and_true, Bool.and_false, Bool.false_and, Bool.true_and, Bool.or_false, Bool.false_or] at h19)
    obtain rfl : j = 5 := by omega
    have hno5 : (S.five o).any S.wild = false := hno
    refine Aw_exit ?_
    refine Aw_seq ?_
    refine Aw_seq ?_
    refine Aw_region ?_
    refine Al_pu (Pu_move (.inr rfl) (by conv => lhs; whnf)) rfl rfl (by decide) (by kernel_rfl) ?_
    refine Al_nil ?_
    refine Aw_block ?_
    refine Aw_loopk (ι := Nat) [1] [] (fun m => [(5, .d (iv m))]) (fun m => []) (fun m => m ≤ o.keys.length ∧ (o.keys.take m).any S.long = false) (fun m => o.keys.length - m) (0) (⟨Nat.zero_le _, by simp⟩) ⟨Sub.rfl, trivial⟩ trivial ?_
    rintro m ⟨hk1, hnl⟩
    refine Aw_seq ?_
    refine Aw_seq ?_
    refine Aw_region ?_
    refine Al_pu (Pu_move (.inl rfl) (by conv => lhs; whnf)) rfl rfl (by decide) (by kernel_rfl) ?_
    refine Al_pu (Pu_field 8 rfl Try.underlying30 rfl rfl Try.sizeOf24 rfl) rfl rfl (by decide) (by kernel_rfl) ?_
    refine Al_pu (Pu_load1 rfl Try.isAgg24 rfl rfl) rfl rfl (by decide) (by kernel_rfl) ?_
    refine Al_pu (Pu_len rfl Try.underlying24 rfl (by first | exact List.length_map .. | exact rfl)) rfl rfl (by decide) (by kernel_rfl) ?_
    refine Al_pu (Pu_cmp rfl rfl rfl rfl) rfl rfl (by decide) (by kernel_rfl) ?_
    refine Al_nil ?_
    refine Aw_cond rfl (fun h36 => ?_) (fun h36 => ?_)
    · (try simp only [decide_eq_true_eq, decide_eq_false_iff_not, Bool.and_eq_true, Bool.or_eq_true, Bool.and_eq_false_iff, Bool.or_eq_false_iff, Bool.not_eq_true', Bool.not_eq_false', beq_iff_eq, Bool.not_eq_eq_eq_not, Bool.not_true, Bool.not_false, List.length_map, Bool.and_true, Bool.and_false, Bool.false_and, Bool.true_and, Bool.or_false, Bool.false_or] at h36)
      have hm : m < o.keys.length := by omega
      refine Aw_skip ?_
      refine Aw_seq ?_
      refine Aw_block ?_
      refine Aw_seq ?_
      refine Aw_region ?_
      refine Al_pu (Pu_field 8 rfl Try.underlying30 rfl rfl Try.sizeOf24 rfl) rfl rfl (by decide) (by kernel_rfl) ?_
      refine Al_pu (Pu_load1 rfl Try.isAgg24 rfl rfl) rfl rfl (by decide) (by kernel_rfl) ?_
      refine Al_pu (Pu_move (.inl rfl) (by conv => lhs; whnf)) rfl rfl (by decide) (by kernel_rfl) ?_
      refine Al_pu (Pu_index rfl Try.underlying24 Try.sizeOf9 rfl rfl (rfl) (mapget hm)) rfl rfl (by decide) (by kernel_rfl) ?_
      refine Al_pu (Pu_load1 rfl Try.isAgg9 rfl rfl) rfl rfl (by decide) (by kernel_rfl) ?_
      refine Al_pu (Pu_lenS rfl Try.underlying9 rfl) rfl rfl (by decide) (by kernel_rfl) ?_
      refine Al_pu (Pu_cmp rfl rfl rfl rfl) rfl rfl (by decide) (by kernel_rfl) ?_
      refine Al_nil ?_
      refine Aw_cond rfl (fun h45 => ?_) (fun h45 => ?_)
      · skip
        have hb : S.long o.keys[m] = true := by rw [← h45]; exact decide_eq_decide.2 (by omega)
        refine Aw_seq ?_
        refine Aw_region ?_
        refine Al_pu (Pu_move (.inr rfl) (by conv => lhs; whnf)) rfl rfl (by decide) (by kernel_rfl) ?_
        refine Al_nil ?_
        refine Aw_ret ?_
        exact Sub.bool (S.check_long (S.any_at hm hb)).symm -- ret 1
      · skip
        have hb : S.long o.keys[m] = false := by rw [← h45]; exact decide_eq_decide.2 (by omega)
        refine Aw_skip ?_
        refine Aw_region ?_
        refine Al_pu (Pu_move (.inl rfl) (by conv => lhs; whnf)) rfl rfl (by decide) (by kernel_rfl) ?_
        refine Al_pu (Pu_add rfl rfl rfl (fun h1 h2 => by simp only [A.inI, A.maxI] at *; omega)) rfl rfl (by decide) (by kernel_rfl) ?_
        refine Al_pu (Pu_move (.inr rfl) (by conv => lhs; whnf)) rfl rfl (by decide) (by kernel_rfl) ?_
        refine Al_nil ?_
        exact ⟨m + 1, ⟨by omega, S.any_snoc hm hnl hb⟩, by omega, Le.ov ⟨Sub.num (by omega), trivial⟩ ⟨Sub.rfl, trivial⟩ trivial trivial⟩ -- loop 1 next.0
    · (try simp only [decide_eq_true_eq, decide_eq_false_iff_not, Bool.and_eq_true, Bool.or_eq_true, Bool.and_eq_false_iff, Bool.or_eq_false_iff, Bool.not_eq_true', Bool.not_eq_false', beq_iff_eq, Bool.not_eq_eq_eq_not, Bool.not_true, Bool.not_false, List.length_map, Bool.and_true, Bool.and_false, Bool.false_and, Bool.true_and, Bool.or_false, Bool.false_or] at h36)
      obtain rfl : m = o.keys.length := by omega
      rw [List.take_length] at hnl
      refine Aw_exit ?_
      refine Aw_seq ?_
      refine Aw_region ?_
      refine Al_pu (Pu_field 9 rfl Try.underlying30 rfl rfl Try.sizeOf28 rfl) rfl rfl (by decide) (by kernel_rfl) ?_
      refine Al_pu (Pu_loadN rfl Try.isAgg28 Try.sizeOf28 rfl (Nat.le_of_ble_eq_true rfl)) rfl rfl (by decide) (by kernel_rfl) ?_
      refine Al_pu (Pu_call (srow_a o.c hf.2.1 hf.2.2.1 hf.2.2.2) rfl ⟨Sub.rfl, trivial⟩) rfl rfl (by decide) (by kernel_rfl) ?_
      refine Al_pu (Pu_move (.inr rfl) (by conv => lhs; whnf)) rfl rfl (by decide) (by kernel_rfl) ?_
      refine Al_nil ?_
      refine Aw_seq ?_
      refine Aw_region ?_
      refine Al_pu (Pu_move (.inl rfl) (by conv => lhs; whnf)) rfl rfl (by decide) (by kernel_rfl) ?_
      refine Al_pu (Pu_move (.inl rfl) (by conv => lhs; whnf)) rfl rfl (by decide) (by kernel_rfl) ?_
      refine Al_st (St_gd [] rfl rfl rfl rfl trivial (fun hg51 => Pu_field 0 rfl Try.underlying30 rfl rfl Try.sizeOf3 rfl)) rfl (by decide) (by kernel_rfl) (by intro j b oj dj h1 h2 h3; cases h1; cases h2; cases h3; decide) ?_
      refine Al_st (St_gd [51] rfl rfl rfl rfl ⟨⟨_, rfl⟩, trivial⟩ (fun hg52 => Pu_load1 rfl Try.isAgg3 rfl rfl)) rfl (by decide) (by kernel_rfl) (by intro j b oj dj h1 h2 h3; cases h1; cases h2; cases h3; decide) ?_
      refine Al_st (St_gd [52] rfl rfl rfl rfl ⟨⟨_, rfl⟩, trivial⟩ (fun hg53 => Pu_cmp rfl rfl rfl rfl)) rfl (by decide) (by kernel_rfl) (by intro j b oj dj h1 h2 h3; cases h1; cases h2; cases h3; decide) ?_
      refine Al_pu (Pu_and rfl rfl rfl rfl) rfl rfl (by decide) (by kernel_rfl) ?_
      refine Al_pu (Pu_move (.inl rfl) (by conv => lhs; whnf)) rfl rfl (by decide) (by kernel_rfl) ?_
      refine Al_st (St_gd [] rfl rfl rfl rfl trivial (fun hg56 => Pu_field 0 rfl Try.underlying30 rfl rfl Try.sizeOf3 rfl)) rfl (by decide) (by kernel_rfl) (by intro j b oj dj h1 h2 h3; cases h1; cases h2; cases h3; decide) ?_
      refine Al_st (St_gd [56] rfl rfl rfl rfl ⟨⟨_, rfl⟩, trivial⟩ (fun hg57 => Pu_load1 rfl Try.isAgg3 rfl rfl)) rfl (by decide) (by kernel_rfl) (by intro j b oj dj h1 h2 h3; cases h1; cases h2; cases h3; decide) ?_
      refine Al_st (St_gd [57] rfl rfl rfl rfl ⟨⟨_, rfl⟩, trivial⟩ (fun hg58 => Pu_cmp rfl rfl rfl rfl)) rfl (by decide) (by kernel_rfl) (by intro j b oj dj h1 h2 h3; cases h1; cases h2; cases h3; decide) ?_
      refine Al_pu (Pu_and rfl rfl rfl rfl) rfl rfl (by decide) (by kernel_rfl) ?_
      refine Al_pu (Pu_move (.inl rfl) (by conv => lhs; whnf)) rfl rfl (by decide) (by kernel_rfl) ?_
      refine Al_st (St_gd [] rfl rfl rfl rfl trivial (fun hg61 => Pu_field 6 rfl Try.underlying30 rfl rfl Try.sizeOf9 rfl)) rfl (by decide) (by kernel_rfl) (by intro j b oj dj h1 h2 h3; cases h1; cases h2; cases h3; decide) ?_
      refine Al_st (St_gd [61] rfl rfl rfl rfl ⟨⟨_, rfl⟩, trivial⟩ (fun hg62 => Pu_load1 rfl Try.isAgg9 rfl rfl)) rfl (by decide) (by kernel_rfl) (by intro j b oj dj h1 h2 h3; cases h1; cases h2; cases h3; decide) ?_
      refine Al_st (St_gd [62] rfl rfl rfl rfl ⟨⟨_, rfl⟩, trivial⟩ (fun hg63 => Pu_lenS rfl Try.underlying9 rfl)) rfl (by decide) (by kernel_rfl) (by intro j b oj dj h1 h2 h3; cases h1; cases h2; cases h3; decide) ?_
      refine Al_st (St_gd [63] rfl rfl rfl rfl ⟨⟨_, rfl⟩, trivial⟩ (fun hg64 => Pu_cmp rfl rfl rfl rfl)) rfl (by decide) (by kernel_rfl) (by intro j b oj dj h1 h2 h3; cases h1; cases h2; cases h3; decide) ?_
      refine Al_pu (Pu_and rfl rfl rfl rfl) rfl rfl (by decide) (by kernel_rfl) ?_
      refine Al_pu (Pu_move (.inl rfl) (by conv => lhs; whnf)) rfl rfl (by decide) (by kernel_rfl) ?_
      refine Al_st (St_gd [] rfl rfl rfl rfl trivial (fun hg67 => Pu_field 7 rfl Try.underlying30 rfl rfl Try.sizeOf9 rfl)) rfl (by decide) (by kernel_rfl) (by intro j b oj dj h1 h2 h3; cases h1; cases h2; cases h3; decide) ?_
      refine Al_st (St_gd [67] rfl rfl rfl rfl ⟨⟨_, rfl⟩, trivial⟩ (fun hg68 => Pu_load1 rfl Try.isAgg9 rfl rfl)) rfl (by decide) (by kernel_rfl) (by intro j b oj dj h1 h2 h3; cases h1; cases h2; cases h3; decide) ?_
      refine Al_st (St_gd [68] rfl rfl rfl rfl ⟨⟨_, rfl⟩, trivial⟩ (fun hg69 => Pu_lenS rfl Try.underlying9 rfl)) rfl (by decide) (by kernel_rfl) (by intro j b oj dj h1 h2 h3; cases h1; cases h2; cases h3; decide) ?_
      refine Al_st (St_gd [69] rfl rfl rfl rfl ⟨⟨_, rfl⟩, trivial⟩ (fun hg70 => Pu_cmp rfl rfl rfl rfl)) rfl (by decide) (by kernel_rfl) (by intro j b oj dj h1 h2 h3; cases h1; cases h2; cases h3; decide) ?_
      refine Al_pu (Pu_and rfl rfl rfl rfl) rfl rfl (by decide) (by kernel_rfl) ?_
      refine Al_pu (Pu_move (.inl rfl) (by conv => lhs; whnf)) rfl rfl (by decide) (by kernel_rfl) ?_
      refine Al_st (St_gd [] rfl rfl rfl rfl trivial (fun hg73 => Pu_field 8 rfl Try.underlying30 rfl rfl Try.sizeOf24 rfl)) rfl (by decide) (by kernel_rfl) (by intro j b oj dj h1 h2 h3; cases h1; cases h2; cases h3; decide) ?_
      refine Al_st (St_gd [73] rfl rfl rfl rfl ⟨⟨_, rfl⟩, trivial⟩ (fun hg74 => Pu_load1 rfl Try.isAgg24 rfl rfl)) rfl (by decide) (by kernel_rfl) (by intro j b oj dj h1 h2 h3; cases h1; cases h2; cases h3; decide) ?_
      refine Al_st (St_gd [74] rfl rfl rfl rfl ⟨⟨_, rfl⟩, trivial⟩ (fun hg75 => by exact Pu_len rfl Try.underlying24 rfl (by first | exact List.length_map .. | exact rfl))) rfl (by decide) (by kernel_rfl) (by intro j b oj dj h1 h2 h3; cases h1; cases h2; cases h3; decide) ?_
      refine Al_st (St_gd [75] rfl rfl rfl rfl ⟨⟨_, rfl⟩, trivial⟩ (fun hg76 => Pu_cmp rfl rfl rfl rfl)) rfl (by decide) (by kernel_rfl) (by intro j b oj dj h1 h2 h3; cases h1; cases h2; cases h3; decide) ?_
      refine Al_pu (Pu_and rfl rfl rfl rfl) rfl rfl (by decide) (by kernel_rfl) ?_
      refine Al_pu (Pu_move (.inr rfl) (by conv => lhs; whnf)) rfl rfl (by decide) (by kernel_rfl) ?_
      refine Al_nil ?_
      refine Aw_ret ?_
      exact Sub.bool (S.check_ref hno5 hnl) -- ret 2
end Go.Proofs.Ytocgnmklgklfnaa
