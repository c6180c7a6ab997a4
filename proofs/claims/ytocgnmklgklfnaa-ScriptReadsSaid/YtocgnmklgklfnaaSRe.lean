/- script.Read: the walk. -/
import Derived.Test.YtocgnmklgklfnaaSSt
import Derived.Test.YtocgnmklgklfnaaSRd2
import Derived.Recover
set_option linter.unusedSimpArgs false
set_option linter.unusedVariables false
namespace Go.Proofs.Ytocgnmklgklfnaa
open Go.RowKit A R
namespace V
/-- The steps that some bytes tell. -/
def pread (l : List UInt8) : Option (List SOp) := match pnum 4096 l with
  | none => none
  | some (n, r) => match pmany pstep n r with
    | none => none
    | some (os, t) => if t = [] then some os else none
def readA (l : List UInt8) : AV := match pread l with
  | some os => .tup [.sl 12 (os.map SOp.row), bv true]
  | none => .tup [.sl 12 [], bv false]
end V
/-- What stands at the end of script.Read's body. -/
def RtD (l : List UInt8) (gA gB : Nat) : Exit → ASt → Prop
  | .ret, st => st.sl 2 = .bx 2 gA 0 ∧ st.sl 3 = .bx 3 gB 0 ∧ ∃ rows b, st.ob 2 = some (gA, .box 22 [.d (.sl 12 rows)]) ∧ st.ob 3 = some (gB, .box 4 [.d (bv b)]) ∧ V.readA l = .tup [.sl 12 rows, bv b]
  | .panic ch, st => st.sl 2 = .bx 2 gA 0 ∧ st.sl 3 = .bx 3 gB 0 ∧ V.pread l = none ∧ (∃ pv, ch = [{ v := .iface pv (.agg #[]), recovered := false }]) ∧ ∃ c2 c3, st.ob 2 = some (gA, .box 22 [c2]) ∧ st.ob 3 = some (gB, .box 4 [c3])
  | _, _ => False
theorem V.stepR_no {s : ByteArray} {r : List UInt8} (h : V.pstep r = none) : V.stepR s r = none := by unfold V.stepR; rw [h]
theorem V.stepR_yes {s : ByteArray} {r t : List UInt8} {o : SOp} (h : V.pstep r = some (o, t)) : V.stepR s r = some ([tv s, iv (V.pos s t)], .row o.row) := by unfold V.stepR; rw [h]
theorem V.pmany_suf {α : Type} {p : List UInt8 → Option (α × List UInt8)} {s : ByteArray} (hp : ∀ r x t, r <:+ s.data.toList → p r = some (x, t) → t <:+ s.data.toList) : ∀ (k : Nat) (r : List UInt8) (xs : List α) (t : List UInt8), r <:+ s.data.toList → V.pmany p k r = some (xs, t) → t <:+ s.data.toList
  | 0, r, xs, t, hr, h => by simp only [V.pmany, Option.some.injEq, Prod.mk.injEq] at h; rw [← h.2]; exact hr
  | k + 1, r, xs, t, hr, h => by
    simp only [V.pmany] at h
    split at h
    · cases h
    · rename_i x t' h1
      split at h
      · cases h
      · rename_i xs' t2 h2
        simp only [Option.some.injEq, Prod.mk.injEq] at h
        rw [← h.2]
        exact V.pmany_suf hp k t' xs' t2 (hp r x t' hr h1) h2
theorem V.pstep_suf {s : ByteArray} {r t : List UInt8} {o : SOp} (hr : r <:+ s.data.toList) (h : V.pstep r = some (o, t)) : t <:+ s.data.toList := by
  unfold V.pstep at h
  split at h
  · cases h
  · rename_i ns r1 h1
    have k1 := V.pmany_suf (fun r x t hr h => (V.pnum_suf (by omega) hr h).1) _ _ _ _ hr h1
    split at h
    · cases h
    · rename_i k r2 h2
      have k2 := (V.ptext_suf (by omega) k1 h2).1
      split at h
      · cases h
      · rename_i v r3 h3
        have k3 := (V.ptext_suf (by omega) k2 h3).1
        split at h
        · cases h
        · rename_i m r4 h4
          have k4 := (V.pnum_suf (by omega) k3 h4).1
          split at h
          · cases h
          · rename_i ks r5 h5
            have k5 := V.pmany_suf (fun r x t hr h => (V.ptext_suf (by omega) hr h).1) _ _ _ _ k4 h5
            split at h
            · cases h
            · rename_i w r6 h6
              have k6 := (V.ptext_suf (by omega) k5 h6).1
              split at h
              · cases h
              · split at h
                · simp only [Option.some.injEq, Prod.mk.injEq] at h
                  rw [← h.2]; exact k6
                · cases h
set_option maxRecDepth 100000 in
set_option maxHeartbeats 2000000 in
theorem sread_body (s : ByteArray) (hs : s.size ≤ 1000000) (M0 : Nat → Prop) (w0 : Base) (hnl : ∀ b, ¬ w0.l b) (gA gB : Nat) {x y c : Code} (hc : Try.f14.body = some (.seq x (.seq y c))) : Aw Try.prog 27 M0 w0 c (RtD s.data.toList gA gB) (mk [(0, .d (tv s)), (2, .bx 2 gA 0), (3, .bx 3 gB 0)] [(2, gA, .box 22 [V.nilS]), (3, gB, .box 4 [.d (bv false)])]) := by
  cases hc
  have hr0 : s.data.toList <:+ s.data.toList := List.suffix_refl _
  have hp0 : V.pos s s.data.toList = 0 := by show s.size - s.data.toList.length = 0; rw [Array.length_toList]; exact Nat.sub_self _
  refine Aw_seq ?_
  refine Aw_region ?_
  refine Al_pu (Pu_move (.inl rfl) (by conv => lhs; whnf)) rfl rfl (by decide) (by kernel_rfl) ?_
  refine Al_pu (Pu_build (aa := [(0, _)]) rfl Try.underlying68 Try.zeroValue68 (places68 Try.underlying68) (by kernel_rfl) ⟨rfl, rfl, rfl, trivial⟩ rfl) rfl rfl (by decide) (by kernel_rfl) ?_
  refine Al_boxN rfl rfl rfl (by decide) (by kernel_rfl) rfl (fun g8 => ?_)
  refine Al_pu (Pu_move (.inr rfl) (by conv => lhs; whnf)) rfl rfl (by decide) (by kernel_rfl) ?_
  refine Al_nil ?_
  refine Aw_seq ?_
  refine Aw_seq ?_
  refine Aw_region ?_
  refine Al_pu (Pu_move (.inl rfl) (by conv => lhs; whnf)) rfl rfl (by decide) (by kernel_rfl) ?_
  have hm := snum_m s s.data.toList 4096 hs hr0 (by omega)
  rw [hp0] at hm
  rcases hb : V.pnum 4096 s.data.toList with _ | ⟨n, r⟩
  · rw [V.numR_no hb] at hm
    exact Al_mpanic hm rfl rfl (by kernel_rfl) rfl rfl ⟨Sub.rfl, trivial⟩ (fun pv => ⟨rfl, rfl, by unfold V.pread; rw [hb], ⟨pv, rfl⟩, _, _, rfl, rfl⟩)
  rw [V.numR_yes hb] at hm
  obtain ⟨hr, hn⟩ := V.pnum_suf (by omega) hr0 hb
  refine Al_mcall (hm) rfl rfl rfl (by decide) (by kernel_rfl) rfl rfl ⟨Sub.rfl, trivial⟩ ?_
  refine Al_pu (Pu_move (.inl rfl) (by conv => lhs; whnf)) rfl rfl (by decide) (by kernel_rfl) ?_
  refine Al_nil ?_
  refine Aw_block ?_
  refine Aw_owncell 0 (k := 2) (k2 := 20) (e := 30) (n := 12) rfl rfl rfl (fun g20 => ?_)
  refine Aw_loopk (ι := Nat × (List SOp) × (List UInt8) × Nat) [0, 2, 3, 4, 10] [3] (fun (i, os, ri, g) => [(11, .d (iv i))]) (fun (i, os, ri, g) => [(2, gA, .box 22 [.ow 20 g]), (20, g, .arr 30 12 (os.map SOp.row)), (8, g8, .box 68 [.d (tv s), .d (iv (V.pos s ri))])]) (fun (i, os, ri, g) => i ≤ n ∧ os.length = i ∧ V.pmany V.pstep i r = some (os, ri) ∧ ri <:+ s.data.toList) (fun (i, os, ri, g) => n - i) ((0, [], r, g20)) (⟨Nat.zero_le _, ⟨rfl, rfl, hr⟩⟩) ⟨Sub.rfl, trivial⟩ ⟨rfl, rfl, rfl, trivial⟩ ?_
  rintro ⟨i, os, ri, g⟩ ⟨hk0, ⟨hol, hos, hri⟩⟩
  refine Aw_seq ?_
  refine Aw_region ?_
  refine Al_pu (Pu_cmp rfl rfl rfl rfl) rfl rfl (by decide) (by kernel_rfl) ?_
  refine Al_nil ?_
  refine Aw_seq ?_
  refine Aw_cond rfl (fun h12 => ?_) (fun h12 => ?_)
  · (try simp only [decide_eq_true_eq, decide_eq_false_iff_not, Bool.and_eq_true, Bool.or_eq_true, Bool.and_eq_false_iff, Bool.or_eq_false_iff, Bool.not_eq_true', Bool.not_eq_false', beq_iff_eq, Bool.not_eq_eq_eq_not, Bool.not_true, Bool.not_false, List.length_map, Bool.and_true, Bool.and_false, Bool.false_and, Bool.true_and, Bool.or_false, Bool.false_or] at h12)
    refine Aw_skip ?_
    -- join 0: live [0, 2, 3, 4, 10, 11], turned []
    refine Aw_seq ?_
    refine Aw_block ?_
    refine Aw_drawn (by kernel_rfl) ?_
    refine Ad_take 1 rfl (PuI_move (.inl rfl) (by conv => lhs; whnf)) rfl rfl (by decide) (by kernel_rfl) (by kernel_rfl) (by kernel_rfl) (by kernel_rfl) (fun _ _ h => h) ?_
    refine Ad_two 0 2 rfl rfl (by kernel_rfl) ?_ ?_
    · refine Al_pu (Pu_loadb rfl Try.isAgg22 rfl rfl rfl) rfl rfl (by decide) (by kernel_rfl) ?_
      refine Al_nil ?_
      refine Ad_one 2 rfl (by kernel_rfl) ?_
      have hm2 := sstep_m s ri hs hri
      rcases hb2 : V.pstep ri with _ | ⟨o, t⟩
      · rw [V.stepR_no hb2] at hm2
        have hno : V.pmany V.pstep (i + 1) r = none := by rw [V.pmany_snoc, hos]; simp only [hb2]
        have hnon := V.pmany_none hno (show i + 1 ≤ n by omega)
        exact Al_mpanic hm2 rfl rfl (by kernel_rfl) rfl rfl trivial (fun pv => ⟨rfl, rfl, by unfold V.pread; simp only [hb, hnon], ⟨pv, rfl⟩, _, _, rfl, rfl⟩)
      rw [V.stepR_yes hb2] at hm2
      have ht := V.pstep_suf hri hb2
      refine Al_mcall (hm2) rfl rfl rfl (by decide) (by kernel_rfl) rfl rfl trivial ?_
      refine Al_nil ?_
      refine Ad_one 3 rfl (by kernel_rfl) ?_
      refine Al_pu (Pu_slice1 rfl Try.underlying22 Try.sizeOf30 Try.zeroValue30 rfl (by decide) (by decide) (by kernel_rfl) rfl rfl rfl) rfl rfl (by decide) (by kernel_rfl) ?_
      refine Al_nil ?_
      refine Ad_one 4 rfl (by kernel_rfl) ?_
      refine Al_append rfl rfl rfl (by decide) (by kernel_rfl) elem22 (by decide) Try.sizeOf30 rfl rfl rfl (by simp; omega) (by decide) (fun g17 => ?_)
      refine Al_nil ?_
      refine Ad_one 5 rfl (by kernel_rfl) ?_
      refine Al_store1 rfl rfl rfl (by kernel_rfl) Try.isAgg22 Try.sizeOf22 rfl rfl (Nat.le_of_ble_eq_true rfl) (by conv => lhs; whnf) rfl ?_
      refine Al_nil ?_
      refine Ad_done (by kernel_rfl) ?_
      refine Aw_region ?_
      refine Al_pu (Pu_add rfl rfl rfl (fun h1 h2 => by simp only [A.inI, A.maxI] at *; omega)) rfl rfl (by decide) (by kernel_rfl) ?_
      refine Al_pu (Pu_move (.inl rfl) (by conv => lhs; whnf)) rfl rfl (by decide) (by kernel_rfl) ?_
      refine Al_nil ?_
      exact ⟨(i + 1, (os ++ [o]), t, g17), ⟨by omega, ⟨by simp [hol], by rw [V.pmany_snoc, hos]; simp only [hb2], ht⟩⟩, by simp only []; omega, Le.ov ⟨Sub.num (by omega), trivial⟩ ⟨Sub.rfl, Sub.rfl, Sub.rfl, Sub.rfl, Sub.rfl, trivial⟩ ⟨rfl, obeq (by simp [A.cellsA]), rfl, trivial⟩ ⟨rfl, trivial⟩⟩ -- loop 0 next.0
    · have hm2 := sstep_m s ri hs hri
      rcases hb2 : V.pstep ri with _ | ⟨o, t⟩
      · rw [V.stepR_no hb2] at hm2
        have hno : V.pmany V.pstep (i + 1) r = none := by rw [V.pmany_snoc, hos]; simp only [hb2]
        have hnon := V.pmany_none hno (show i + 1 ≤ n by omega)
        exact Al_mpanic hm2 rfl rfl (by kernel_rfl) rfl rfl trivial (fun pv => ⟨rfl, rfl, by unfold V.pread; simp only [hb, hnon], ⟨pv, rfl⟩, _, _, rfl, rfl⟩)
      rw [V.stepR_yes hb2] at hm2
      have ht := V.pstep_suf hri hb2
      refine Al_mcall (hm2) rfl rfl rfl (by decide) (by kernel_rfl) rfl rfl trivial ?_
      refine Al_nil ?_
      refine Ad_two 0 3 rfl rfl (by kernel_rfl) ?_ ?_
      · refine Al_pu (Pu_loadb rfl Try.isAgg22 rfl rfl rfl) rfl rfl (by decide) (by kernel_rfl) ?_
        refine Al_nil ?_
        refine Ad_one 3 rfl (by kernel_rfl) ?_
        refine Al_pu (Pu_slice1 rfl Try.underlying22 Try.sizeOf30 Try.zeroValue30 rfl (by decide) (by decide) (by kernel_rfl) rfl rfl rfl) rfl rfl (by decide) (by kernel_rfl) ?_
        refine Al_nil ?_
        refine Ad_one 4 rfl (by kernel_rfl) ?_
        refine Al_append rfl rfl rfl (by decide) (by kernel_rfl) elem22 (by decide) Try.sizeOf30 rfl rfl rfl (by simp; omega) (by decide) (fun g17 => ?_)
        refine Al_nil ?_
        refine Ad_one 5 rfl (by kernel_rfl) ?_
        refine Al_store1 rfl rfl rfl (by kernel_rfl) Try.isAgg22 Try.sizeOf22 rfl rfl (Nat.le_of_ble_eq_true rfl) (by conv => lhs; whnf) rfl ?_
        refine Al_nil ?_
        refine Ad_done (by kernel_rfl) ?_
        refine Aw_region ?_
        refine Al_pu (Pu_add rfl rfl rfl (fun h1 h2 => by simp only [A.inI, A.maxI] at *; omega)) rfl rfl (by decide) (by kernel_rfl) ?_
        refine Al_pu (Pu_move (.inl rfl) (by conv => lhs; whnf)) rfl rfl (by decide) (by kernel_rfl) ?_
        refine Al_nil ?_
        exact ⟨(i + 1, (os ++ [o]), t, g17), ⟨by omega, ⟨by simp [hol], by rw [V.pmany_snoc, hos]; simp only [hb2], ht⟩⟩, by simp only []; omega, Le.ov ⟨Sub.num (by omega), trivial⟩ ⟨Sub.rfl, Sub.rfl, Sub.rfl, Sub.rfl, Sub.rfl, trivial⟩ ⟨rfl, obeq (by simp [A.cellsA]), rfl, trivial⟩ ⟨rfl, trivial⟩⟩ -- loop 0 next.1
      · refine Al_pu (Pu_slice1 rfl Try.underlying22 Try.sizeOf30 Try.zeroValue30 rfl (by decide) (by decide) (by kernel_rfl) rfl rfl rfl) rfl rfl (by decide) (by kernel_rfl) ?_
        refine Al_nil ?_
        refine Ad_one 0 rfl (by kernel_rfl) ?_
        refine Al_pu (Pu_loadb rfl Try.isAgg22 rfl rfl rfl) rfl rfl (by decide) (by kernel_rfl) ?_
        refine Al_nil ?_
        refine Ad_one 4 rfl (by kernel_rfl) ?_
        refine Al_append rfl rfl rfl (by decide) (by kernel_rfl) elem22 (by decide) Try.sizeOf30 rfl rfl rfl (by simp; omega) (by decide) (fun g17 => ?_)
        refine Al_nil ?_
        refine Ad_one 5 rfl (by kernel_rfl) ?_
        refine Al_store1 rfl rfl rfl (by kernel_rfl) Try.isAgg22 Try.sizeOf22 rfl rfl (Nat.le_of_ble_eq_true rfl) (by conv => lhs; whnf) rfl ?_
        refine Al_nil ?_
        refine Ad_done (by kernel_rfl) ?_
        refine Aw_region ?_
        refine Al_pu (Pu_add rfl rfl rfl (fun h1 h2 => by simp only [A.inI, A.maxI] at *; omega)) rfl rfl (by decide) (by kernel_rfl) ?_
        refine Al_pu (Pu_move (.inl rfl) (by conv => lhs; whnf)) rfl rfl (by decide) (by kernel_rfl) ?_
        refine Al_nil ?_
        exact ⟨(i + 1, (os ++ [o]), t, g17), ⟨by omega, ⟨by simp [hol], by rw [V.pmany_snoc, hos]; simp only [hb2], ht⟩⟩, by simp only []; omega, Le.ov ⟨Sub.num (by omega), trivial⟩ ⟨Sub.rfl, Sub.rfl, Sub.rfl, Sub.rfl, Sub.rfl, trivial⟩ ⟨rfl, obeq (by simp [A.cellsA]), rfl, trivial⟩ ⟨rfl, trivial⟩⟩ -- loop 0 next.2
  · (try simp only [decide_eq_true_eq, decide_eq_false_iff_not, Bool.and_eq_true, Bool.or_eq_true, Bool.and_eq_false_iff, Bool.or_eq_false_iff, Bool.not_eq_true', Bool.not_eq_false', beq_iff_eq, Bool.not_eq_eq_eq_not, Bool.not_true, Bool.not_false, List.length_map, Bool.and_true, Bool.and_false, Bool.false_and, Bool.true_and, Bool.or_false, Bool.false_or] at h12)
    obtain rfl : i = n := by omega
    have hl := V.suf_len hri
    refine Aw_frzc 0 (k := 20) (kb := 2) hnl [] rfl rfl rfl rfl trivial ?_
    refine Aw_exit ?_
    refine Aw_seq ?_
    refine Aw_seq ?_
    refine Aw_region ?_
    refine Al_pu (Pu_move (.inl rfl) (by conv => lhs; whnf)) rfl rfl (by decide) (by kernel_rfl) ?_
    refine Al_pu (Pu_nilb rfl rfl) rfl rfl (by decide) (by kernel_rfl) ?_
    refine Al_pu (Pu_fieldb 1 rfl Try.underlying68 rfl rfl Try.sizeOf3 rfl) rfl rfl (by decide) (by kernel_rfl) ?_
    refine Al_pu (Pu_loadb rfl Try.isAgg3 rfl rfl rfl) rfl rfl (by decide) (by kernel_rfl) ?_
    refine Al_pu (Pu_move (.inl rfl) (by conv => lhs; whnf)) rfl rfl (by decide) (by kernel_rfl) ?_
    refine Al_pu (Pu_lenS rfl Try.underlying9 rfl) rfl rfl (by decide) (by kernel_rfl) ?_
    refine Al_pu (Pu_cmp rfl rfl rfl rfl) rfl rfl (by decide) (by kernel_rfl) ?_
    refine Al_nil ?_
    refine Aw_cond rfl (fun h25 => ?_) (fun h25 => ?_)
    · (try simp only [decide_eq_true_eq, decide_eq_false_iff_not, Bool.and_eq_true, Bool.or_eq_true, Bool.and_eq_false_iff, Bool.or_eq_false_iff, Bool.not_eq_true', Bool.not_eq_false', beq_iff_eq, Bool.not_eq_eq_eq_not, Bool.not_true, Bool.not_false, List.length_map, Bool.and_true, Bool.and_false, Bool.false_and, Bool.true_and, Bool.or_false, Bool.false_or] at h25)
      have hne : ri ≠ [] := fun e => by
        subst e
        apply h25
        show ((s.size - 0 : Nat) : Int) = s.size
        rw [Nat.sub_zero]
      refine Aw_seq ?_
      refine Aw_region ?_
      refine Al_store1 rfl rfl rfl (by kernel_rfl) Try.isAgg22 Try.sizeOf22 rfl rfl (Nat.le_of_ble_eq_true rfl) (by conv => lhs; whnf) rfl ?_
      refine Al_store1 rfl rfl rfl (by kernel_rfl) Try.isAgg4 Try.sizeOf4 rfl rfl (Nat.le_of_ble_eq_true rfl) (by conv => lhs; whnf) rfl ?_
      refine Al_nil ?_
      refine Aw_boxle (k := 2) [.d (.sl 12 [])] rfl ⟨Sub.nil, trivial⟩ ?_
      refine Aw_ret ?_
      exact ⟨rfl, rfl, [], false, rfl, rfl, by unfold V.readA V.pread; simp only [hb, hos]; rw [if_neg hne]⟩ -- ret 0
    · (try simp only [decide_eq_true_eq, decide_eq_false_iff_not, Bool.and_eq_true, Bool.or_eq_true, Bool.and_eq_false_iff, Bool.or_eq_false_iff, Bool.not_eq_true', Bool.not_eq_false', beq_iff_eq, Bool.not_eq_eq_eq_not, Bool.not_true, Bool.not_false, List.length_map, Bool.and_true, Bool.and_false, Bool.false_and, Bool.true_and, Bool.or_false, Bool.false_or] at h25)
      have hne : ri = [] := by
        apply List.eq_nil_of_length_eq_zero
        have h1 : ((s.size - ri.length : Nat) : Int) = s.size := h25
        omega
      refine Aw_skip ?_
      refine Aw_seq ?_
      refine Aw_region ?_
      refine Al_pu (Pu_loadb rfl Try.isAgg22 rfl rfl rfl) rfl rfl (by decide) (by kernel_rfl) ?_
      refine Al_store1 rfl rfl rfl (by kernel_rfl) Try.isAgg22 Try.sizeOf22 rfl rfl (Nat.le_of_ble_eq_true rfl) (by conv => lhs; whnf) rfl ?_
      refine Al_store1 rfl rfl rfl (by kernel_rfl) Try.isAgg4 Try.sizeOf4 rfl rfl (Nat.le_of_ble_eq_true rfl) (by conv => lhs; whnf) rfl ?_
      refine Al_nil ?_
      refine Aw_ret ?_
      exact ⟨rfl, rfl, _, true, rfl, rfl, by unfold V.readA V.pread; simp only [hb, hos]; rw [if_pos hne]⟩ -- ret 1
theorem rcatch_busy (p q : Addr) (pv : TypeId) (w : World) (x y : Value) (hp : w.cell? p = some x) (hq : (w.setCell p (.slice none 0 0)).cell? q = some y) (fp : w.frozen? p = false) (fq : (w.setCell p (.slice none 0 0)).frozen? q = false) :
    CallsD Try.prog 32 #[.pointer (some p), .pointer (some q)] (.panicking [{ v := .iface pv (.agg #[]), recovered := false }]) w fun e u' w' => e = .returned (.tuple #[]) ∧ u' = .panicking [{ v := .iface pv (.agg #[]), recovered := true }] ∧ w' = (w.setCell p (.slice none 0 0)).setCell q (.bool false) := by
  refine callsD_of_wpS Try.func32 rfl fun c₀ cs hu => ?_
  apply wpS_seq
  apply wpS_region
  simp [wpOpsS, go_sem, recoverD, hu, Try.ntmps32, Exit.thenS]
  refine wpS_cond (t := true) (by simp [Act.eval, Array.replicate]) ?_
  simp only [if_true]
  apply wpS_region
  simp [wpOpsS, go_sem, hp, hq, fp, fq]
  cases c₀
  simp_all [bodyPostS, results, Try.results32]
theorem seq2_open {P : Program} {a b c : Code} {Q : Exit → Act → World → Prop} {act : Act} {w : World} (h : ∀ X, X = c → (Code.seq a (Code.seq b X)).wp P Q act w) : (Code.seq a (Code.seq b c)).wp P Q act w := h c rfl
/-- Two variables of a call's own, of one cell each. -/
def pin2 (b : Nat) : Rho := fun k g => if g = 0 then (if k = 2 then some (.pointer (some ⟨b, 0, none⟩)) else if k = 3 then some (.pointer (some ⟨b + 1, 0, none⟩)) else none) else none
theorem sim_two {N : Nat} {M : Nat → Prop} {w : World} {D : List Deferred} {T1 T2 : TypeId} {v1 v2 : Value} {s : ByteArray} {tmps : Array Value} (hM : ∀ b, M b → b < w.heap.size) (h1 : vok v1) (h2 : vok v2) (hs : vok (.string s)) (hsz : tmps.size = N) (t0 : tmps.getD 0 undef = .string s) (t2 : tmps.getD 2 undef = .pointer (some ⟨w.heap.size, 0, none⟩)) (t3 : tmps.getD 3 undef = .pointer (some ⟨w.heap.size + 1, 0, none⟩)) :
    SimR N M ⟨w, fun _ => False, D, pin2 w.heap.size⟩ (mk [(0, .d (tv s)), (2, .bx 2 0 0), (3, .bx 3 0 0)] [(2, 0, .box T1 [.d (.v v1)]), (3, 0, .box T2 [.d (.v v2)])]) (pin2 w.heap.size) ⟨tmps, D⟩ ((w.alloc (.cells #[v1] T1)).alloc (.cells #[v2] T2)) := by
  have hz : ((w.alloc (.cells #[v1] T1)).alloc (.cells #[v2] T2)).heap.size = w.heap.size + 2 := by show ((w.heap.push _).push _).size = _; simp
  have g1 : ((w.alloc (.cells #[v1] T1)).alloc (.cells #[v2] T2)).heap[w.heap.size]? = some (.cells #[v1] T1 (0, 0)) := by
    show ((w.heap.push _).push _)[w.heap.size]? = _
    rw [Array.getElem?_push, Array.getElem?_push]; simp
  have g2 : ((w.alloc (.cells #[v1] T1)).alloc (.cells #[v2] T2)).heap[w.heap.size + 1]? = some (.cells #[v2] T2 (0, 0)) := by
    show ((w.heap.push _).push _)[w.heap.size + 1]? = _
    rw [Array.getElem?_push]; simp
  have p2 : pin2 w.heap.size 2 0 = some (.pointer (some ⟨w.heap.size, 0, none⟩)) := rfl
  have p3 : pin2 w.heap.size 3 0 = some (.pointer (some ⟨w.heap.size + 1, 0, none⟩)) := rfl
  have hob : ∀ k g o, (mk [(0, .d (tv s)), (2, .bx 2 0 0), (3, .bx 3 0 0)] [(2, 0, .box T1 [.d (.v v1)]), (3, 0, .box T2 [.d (.v v2)])]).ob k = some (g, o) → (k = 2 ∧ g = 0 ∧ o = .box T1 [.d (.v v1)]) ∨ (k = 3 ∧ g = 0 ∧ o = .box T2 [.d (.v v2)]) := fun k g o h => by
    have h1 : (bif Nat.beq k 2 then some (0, AO.box T1 [.d (.v v1)]) else bif Nat.beq k 3 then some (0, AO.box T2 [.d (.v v2)]) else none) = some (g, o) := h
    cases hk : Nat.beq k 2 with
    | true =>
      rw [hk] at h1
      simp only [cond_true, Option.some.injEq, Prod.mk.injEq] at h1
      exact .inl ⟨Nat.eq_of_beq_eq_true hk, h1.1.symm, h1.2.symm⟩
    | false =>
      rw [hk] at h1
      cases hk3 : Nat.beq k 3 with
      | true =>
        rw [hk3] at h1
        simp only [cond_true, cond_false, Option.some.injEq, Prod.mk.injEq] at h1
        exact .inr ⟨Nat.eq_of_beq_eq_true hk3, h1.1.symm, h1.2.symm⟩
      | false => rw [hk3] at h1; cases h1
  exact {
    size := hsz
    defers := rfl
    slot := fun i => by
      match i with
      | 0 => show Rep _ _ _ (tmps.getD 0 undef); rw [t0]; exact .v _ hs
      | 1 => trivial
      | 2 => exact ⟨_, _, p2, rfl, t2⟩
      | 3 => exact ⟨_, _, p3, rfl, t3⟩
      | i + 4 => trivial
    obj := fun k g o h => by
      rcases hob k g o h with ⟨rfl, rfl, rfl⟩ | ⟨rfl, rfl, rfl⟩
      · refine ⟨_, p2, w.heap.size, #[v1], rfl, .inl (Nat.le_refl _), g1, rfl, fun j q z hq hz' => ?_⟩
        match j with
        | 0 => simp at hq hz'; subst hq hz'; exact ⟨.v _ h1, h1.one⟩
        | j + 1 => simp at hq
      · refine ⟨_, p3, w.heap.size + 1, #[v2], rfl, .inl (Nat.le_succ _), g2, rfl, fun j q z hq hz' => ?_⟩
        match j with
        | 0 => simp at hq hz'; subst hq hz'; exact ⟨.v _ h2, h2.one⟩
        | j + 1 => simp at hq
    apart := fun k g o k' g' o' x x' b h h' hx hx' hb hb' => by
      rcases hob k g o h with ⟨rfl, rfl, rfl⟩ | ⟨rfl, rfl, rfl⟩ <;> rcases hob k' g' o' h' with ⟨rfl, rfl, rfl⟩ | ⟨rfl, rfl, rfl⟩
      · rfl
      · rw [p2] at hx; rw [p3] at hx'; cases hx; cases hx'
        simp [blk] at hb hb'; omega
      · rw [p3] at hx; rw [p2] at hx'; cases hx; cases hx'
        simp [blk] at hb hb'; omega
      · rfl
    gens := ⟨1, fun k g h => by
      rcases Nat.eq_zero_or_pos g with e | e
      · omega
      · exact (h (by unfold pin2; rw [if_neg (by omega)])).elim⟩
    base := hM
    ext := ⟨rfl, rfl, rfl, by show w.heap.size ≤ _; omega, fun b hb _ => by
      show ((w.heap.push _).push _)[b]? = w.heap[b]?
      have hb' : b < w.heap.size := hb
      rw [Array.getElem?_push, Array.getElem?_push]
      simp only [Array.size_push]
      rw [if_neg (by omega), if_neg (by omega)]⟩
    pin := fun _ _ _ h => h }
theorem box1_at {B : Base} {M : Nat → Prop} {w : World} {ρ : Rho} {b : Nat} {T : TypeId} {c : SV} (hO : ORep B M w ρ (.pointer (some ⟨b, 0, none⟩)) (.box T [c])) : ∃ x, w.heap[b]? = some (.cells #[x] T (0, 0)) ∧ SRep M w ρ c x ∧ x.oneCell' = true := by
  obtain ⟨b', vs, e, _, h1, h2, h3⟩ := hO
  simp only [Value.pointer.injEq, Option.some.injEq, Addr.mk.injEq] at e
  obtain ⟨rfl, _⟩ := e
  match vs, h2 with
  | ⟨[x]⟩, _ => exact ⟨x, h1, h3 0 c x rfl rfl⟩
set_option maxRecDepth 100000 in
set_option maxHeartbeats 2000000 in
theorem sread_a (s : ByteArray) (hs : s.size ≤ 1000000) : ACall Try.prog 14 [tv s] (V.readA s.data.toList) := ⟨fun _ _ => by kernel_rfl, fun M w vs hM ha => by
  obtain ⟨rfl, hsv⟩ := A.all1 ha
  have hmf : ∀ (fn : Fn) (first cap : Array Value) (w : World), (Instr.makeFunc fn first cap).run Try.prog w = .ok (.func fn first cap) w := fun _ _ _ _ => rfl
  go_enter_defers Try.func14, Try.ntmps14
  refine seq2_open (fun X hX => ?_)
  refine wp_seq (wp_region_lit ?_)
  refine wpList_plain rfl fun K hK => ?_
  simp [Oper.wp, go_sem]
  refine hK _ _ ?_
  clear hK K
  refine wpList_plain rfl fun K hK => ?_
  simp [Oper.wp, go_sem]
  refine hK _ _ ?_
  clear hK K
  show Code.wp _ _ _ _ _
  refine wp_seq (wp_region_lit ?_)
  refine wpList_plain rfl fun K hK => ?_
  simp [Oper.wp, go_sem]
  refine hK _ _ ?_
  clear hK K
  refine wpList_plain rfl fun K hK => ?_
  simp [Oper.wp, go_sem]
  refine hK _ _ ?_
  clear hK K
  show Code.wp _ _ _ _ _
  have hbody := sread_body s hs M ⟨w, fun _ => False, [{ target := .fn (.func 32) #[.pointer (some ⟨w.heap.size, 0, none⟩), .pointer (some ⟨w.heap.size + 1, 0, none⟩)], args := #[] }], pin2 w.heap.size⟩ (fun _ h => h) 0 0 (c := X) (by subst hX; rfl)
  refine wp_mono (hbody.out _ _ ⟨_, sim_two hM (by exact ⟨rfl, rfl⟩) (by exact trivial) hsv rfl rfl rfl rfl⟩) ?_
  rintro e a' w' ⟨st, hQ, ρ, hsim⟩
  have hextE : Ev.Ext w w' := ⟨hsim.ext.os, hsim.ext.tape, hsim.ext.output, hsim.ext.size, fun b hb => hsim.ext.block b hb (fun h => h)⟩
  have hsl : ∀ k, st.sl k = .bx k 0 0 → k = 2 ∨ k = 3 → ∃ b, pin2 w.heap.size k 0 = some (.pointer (some ⟨b, 0, none⟩)) ∧ a'.tmps.getD k undef = .pointer (some ⟨b, 0, none⟩) := fun k hk hk2 => by
    have h1 := hsim.slot k
    rw [hk] at h1
    obtain ⟨y, b, h2, h3, h4⟩ := h1
    rcases hk2 with rfl | rfl
    · rw [hsim.pin 2 0 _ rfl] at h2; cases h2; cases h3; exact ⟨_, rfl, h4⟩
    · rw [hsim.pin 3 0 _ rfl] at h2; cases h2; cases h3; exact ⟨_, rfl, h4⟩
  cases e with
  | ret =>
    obtain ⟨q2, q3, rows, b, o2, o3, hres⟩ := hQ
    obtain ⟨b2, e2, s2⟩ := hsl 2 q2 (.inl rfl)
    obtain ⟨b3, e3, s3⟩ := hsl 3 q3 (.inr rfl)
    cases e2; cases e3
    obtain ⟨y2, k2, O2⟩ := hsim.obj _ _ _ o2
    rw [hsim.pin 2 0 _ rfl] at k2; cases k2
    obtain ⟨y3, k3, O3⟩ := hsim.obj _ _ _ o3
    rw [hsim.pin 3 0 _ rfl] at k3; cases k3
    obtain ⟨x2, g2, r2, u2⟩ := box1_at O2
    obtain ⟨x3, g3, r3, u3⟩ := box1_at O3
    have c2 : w'.cell? ⟨w.heap.size, 0, none⟩ = some x2 := by rw [Lib.cell_of_heap g2]; rfl
    have c3 : w'.cell? ⟨w.heap.size + 1, 0, none⟩ = some x3 := by rw [Lib.cell_of_heap g3]; rfl
    show Leaves _ _ _ _ a'.defers _ _
    rw [hsim.defers]
    refine leaves_cons (f := 32) (args := #[.pointer (some ⟨w.heap.size, 0, none⟩), .pointer (some ⟨w.heap.size + 1, 0, none⟩)]) (by simp) (by simp [go_sem]) ?_
    refine (rcatch_idle _ _ _).mono ?_
    rintro e u' w'' ⟨rfl, rfl, rfl⟩
    rw [Array.getD_eq_getD_getElem?] at s2 s3
    refine ⟨.tuple #[x2, x3], ?_, _, rfl, hextE, ?_⟩
    · simp [results, Try.results14, go_sem, s2, s3, c2, c3]
    · rw [hres]
      exact .tup _ [_, _] rfl fun j c x h7 h8 => by
        match j with
        | 0 => simp at h7 h8; subst h7 h8; exact Rep.mono (Known.sub fun c hc => .inl hc) r2
        | 1 => simp at h7 h8; subst h7 h8; exact Rep.mono (Known.sub fun c hc => .inl hc) r3
        | j + 2 => simp at h7
  | panic ch =>
    obtain ⟨q2, q3, hno, ⟨pv, rfl⟩, c2', c3', o2, o3⟩ := hQ
    obtain ⟨b2, e2, s2⟩ := hsl 2 q2 (.inl rfl)
    obtain ⟨b3, e3, s3⟩ := hsl 3 q3 (.inr rfl)
    cases e2; cases e3
    obtain ⟨y2, k2, O2⟩ := hsim.obj _ _ _ o2
    rw [hsim.pin 2 0 _ rfl] at k2; cases k2
    obtain ⟨y3, k3, O3⟩ := hsim.obj _ _ _ o3
    rw [hsim.pin 3 0 _ rfl] at k3; cases k3
    obtain ⟨x2, g2, r2, u2⟩ := box1_at O2
    obtain ⟨x3, g3, r3, u3⟩ := box1_at O3
    have c2 : w'.cell? ⟨w.heap.size, 0, none⟩ = some x2 := by rw [Lib.cell_of_heap g2]; rfl
    have hb2 : (w'.setCell ⟨w.heap.size, 0, none⟩ (.slice none 0 0)).heap[w.heap.size]? = some (.cells #[.slice none 0 0] 22 (0, 0)) := by simp [World.setCell, Array.getElem?_modify, g2]
    have hb3 : (w'.setCell ⟨w.heap.size, 0, none⟩ (.slice none 0 0)).heap[w.heap.size + 1]? = some (.cells #[x3] 4 (0, 0)) := by
      rw [← g3]; exact Below.heap_setCell _ _ _ _ (by simp)
    have c3 : (w'.setCell ⟨w.heap.size, 0, none⟩ (.slice none 0 0)).cell? ⟨w.heap.size + 1, 0, none⟩ = some x3 := by rw [Lib.cell_of_heap hb3]; rfl
    show Leaves _ _ _ _ a'.defers _ _
    rw [hsim.defers]
    refine leaves_cons (f := 32) (args := #[.pointer (some ⟨w.heap.size, 0, none⟩), .pointer (some ⟨w.heap.size + 1, 0, none⟩)]) (by simp) (by simp [go_sem]) ?_
    refine (rcatch_busy _ _ pv _ x2 x3 c2 c3 (Lib.frozen_of_heap g2 0) (Lib.frozen_of_heap hb3 0)).mono ?_
    rintro e u' w'' ⟨rfl, rfl, rfl⟩
    rw [Array.getD_eq_getD_getElem?] at s2 s3
    obtain ⟨w3, hw3⟩ : ∃ w3, w3 = (w'.setCell ⟨w.heap.size, 0, none⟩ (.slice none 0 0)).setCell ⟨w.heap.size + 1, 0, none⟩ (.bool false) := ⟨_, rfl⟩
    have hc2 : w3.heap[w.heap.size]? = some (.cells #[.slice none 0 0] 22 (0, 0)) := by
      rw [hw3, ← hb2]; exact Below.heap_setCell _ _ _ _ (by simp)
    have hc3 : w3.heap[w.heap.size + 1]? = some (.cells #[.bool false] 4 (0, 0)) := by rw [hw3]; simp [World.setCell, Array.getElem?_modify, g3]
    have d2 : w3.cell? ⟨w.heap.size, 0, none⟩ = some (.slice none 0 0) := by rw [Lib.cell_of_heap hc2]; rfl
    have d3 : w3.cell? ⟨w.heap.size + 1, 0, none⟩ = some (.bool false) := by rw [Lib.cell_of_heap hc3]; rfl
    have hext : Ev.Ext w w3 := by
      rw [hw3]
      exact (hextE.setCell (p := ⟨w.heap.size, 0, none⟩) (Nat.le_refl _) _).setCell (p := ⟨w.heap.size + 1, 0, none⟩) (Nat.le_succ _) _
    rw [← hw3]
    refine ⟨.tuple #[.slice none 0 0, .bool false], ?_, _, rfl, hext, ?_⟩
    · simp [results, Try.results14, go_sem, s2, s3, d2, d3]
    · rw [show V.readA s.data.toList = .tup [.sl 12 [], bv false] from by unfold V.readA; rw [hno]]
      exact .tup _ [_, _] rfl fun j c x h7 h8 => by
        match j with
        | 0 => simp at h7 h8; subst h7 h8; exact .nil 12 none 0
        | 1 => simp at h7 h8; subst h7 h8; exact .v _ trivial
        | j + 2 => simp at h7
  | _ => exact hQ.elim⟩
end Go.Proofs.Ytocgnmklgklfnaa
