/- What the proofs need in common, laid together (3 of 5): no condition. -/
import Derived.Test.YtlcahhlghjbnkaaP2
import Derived.Orders
import Derived.Lib.AppendZerosOnto
import Derived.Lib.Overlaps
import Derived.Lib.SliceRun
import Derived.Laws.OwnMore
set_option linter.unusedSimpArgs false
set_option linter.unusedVariables false
set_option linter.constructorNameAsVariable false

section
namespace Go.Proofs.Ytlcahhlghjbnkaa
open Go.RowKit R
namespace D
def lessB (a b c d : Int) : Bool := if a = c then decide (b < d) else decide (a < c)
def okB (d : Dep) : Bool := K.checkB d.key && V.stampB d.n d.s
def eqB (x d : Dep) : Bool := x.key.toList == d.key.toList
def ltB (x d : Dep) : Bool := Op.bytesLess x.key.toList d.key.toList
def addF : List Dep → Dep → Bool → List Dep
  | [], d, put => if put then [] else [d]
  | x :: r, d, put =>
    if eqB x d then (if lessB x.n x.s d.n d.s then d else x) :: addF r d true
    else if put then x :: addF r d true
    else if ltB x d then x :: addF r d false
    else d :: x :: addF r d true
def add (p : List Dep) (d : Dep) : List Dep := if okB d then addF p d false else p
theorem addF_len : ∀ (p : List Dep) (d : Dep) (put : Bool), (addF p d put).length ≤ p.length + 1
  | [], d, put => by unfold addF; split <;> simp
  | x :: r, d, put => by
    have h1 := addF_len r d true
    have h2 := addF_len r d false
    have h3 : (addF r d true).length ≤ r.length := addF_len_true r d
    unfold addF
    split
    · simp; omega
    · split
      · simp; omega
      · split <;> simp <;> omega
where addF_len_true : ∀ (p : List Dep) (d : Dep), (addF p d true).length ≤ p.length
  | [], d => by simp [addF]
  | x :: r, d => by
    have h1 := addF_len_true r d
    unfold addF
    split <;> simp <;> omega
theorem add_len (p : List Dep) (d : Dep) : (add p d).length ≤ p.length + 1 := by
  unfold add; split
  · exact addF_len p d false
  · omega
theorem addF_mem : ∀ (p : List Dep) (d : Dep) (put : Bool) (x : Dep), x ∈ addF p d put → x ∈ p ∨ x = d
  | [], d, put, x, h => by
    unfold addF at h; split at h
    · cases h
    · simp at h; exact .inr h
  | y :: r, d, put, x, h => by
    unfold addF at h
    split at h
    · rcases List.mem_cons.1 h with h | h
      · split at h
        · exact .inr h
        · exact .inl (by simp [h])
      · rcases addF_mem r d _ x h with h | h
        · exact .inl (by simp [h])
        · exact .inr h
    · split at h
      · rcases List.mem_cons.1 h with h | h
        · exact .inl (by simp [h])
        · rcases addF_mem r d _ x h with h | h
          · exact .inl (by simp [h])
          · exact .inr h
      · split at h
        · rcases List.mem_cons.1 h with h | h
          · exact .inl (by simp [h])
          · rcases addF_mem r d _ x h with h | h
            · exact .inl (by simp [h])
            · exact .inr h
        · rcases List.mem_cons.1 h with h | h
          · exact .inr h
          · rcases List.mem_cons.1 h with h | h
            · exact .inl (by simp [h])
            · rcases addF_mem r d _ x h with h | h
              · exact .inl (by simp [h])
              · exact .inr h
theorem add_mem (p : List Dep) (d x : Dep) (h : x ∈ add p d) : x ∈ p ∨ x = d := by
  unfold add at h; split at h
  · exact addF_mem p d false x h
  · exact .inl h
/-- where Add's loop stands -/
def At (p : List Dep) (d : Dep) (k : Nat) (put : Bool) (out : List Dep) : Prop := out ++ addF (p.drop k) d put = addF p d false
theorem At.eq {p : List Dep} {d : Dep} {k : Nat} {put : Bool} {out : List Dep} (h : At p d k put out) (hk : k < p.length) (he : eqB p[k] d = true) : At p d (k + 1) true (out ++ [if lessB p[k].n p[k].s d.n d.s then d else p[k]]) := by
  unfold At at *
  rw [← h, List.drop_eq_getElem_cons hk, addF, if_pos he]; simp
theorem At.skip {p : List Dep} {d : Dep} {k : Nat} {out : List Dep} (h : At p d k true out) (hk : k < p.length) (he : eqB p[k] d = false) : At p d (k + 1) true (out ++ [p[k]]) := by
  unfold At at *
  rw [← h, List.drop_eq_getElem_cons hk, addF, if_neg (by simp [he]), if_pos rfl]; simp
theorem At.lt {p : List Dep} {d : Dep} {k : Nat} {out : List Dep} (h : At p d k false out) (hk : k < p.length) (he : eqB p[k] d = false) (hl : ltB p[k] d = true) : At p d (k + 1) false (out ++ [p[k]]) := by
  unfold At at *
  rw [← h, List.drop_eq_getElem_cons hk, addF, if_neg (by simp [he]), if_neg (by simp), if_pos hl]; simp
theorem At.put {p : List Dep} {d : Dep} {k : Nat} {out : List Dep} (h : At p d k false out) (hk : k < p.length) (he : eqB p[k] d = false) (hl : ltB p[k] d = false) : At p d (k + 1) true (out ++ [d] ++ [p[k]]) := by
  unfold At at *
  rw [← h, List.drop_eq_getElem_cons hk, addF, if_neg (by simp [he]), if_neg (by simp), if_neg (by simp [hl])]; simp
end D
end Go.Proofs.Ytlcahhlghjbnkaa
namespace Go.Proofs.Ytlcahhlghjbnkaa
open Go.RowKit A
set_option maxRecDepth 100000 in
theorem rless_a (a b c d : Int) : ACall Try.prog 54 [.row [iv a, iv b], .row [iv c, iv d]] (bv (D.lessB a b c d)) := by
  refine ACall_enter (fun _ _ => by kernel_rfl) Try.func54 rfl Try.ntmps54 Try.results54 (Nat.le_of_ble_eq_true rfl) (fun hok M0 w0 hnl => ?_)
  refine Aw_seq (Aw_region ?_)
  refine Al_p (Pu_boxN rfl rfl) ?_
  refine Al_p (Pu_boxN rfl rfl) ?_
  refine Al_p Pu_mvr ?_
  refine Al_nil (Aw_seq (Aw_seq (Aw_region ?_)))
  refine Al_p (Pu_field 0 rfl Try.underlying34 rfl rfl Try.sizeOf3 rfl) ?_
  refine Al_p (Pu_load1 rfl Try.isAgg3 rfl rfl) ?_
  refine Al_p (Pu_field 0 rfl Try.underlying34 rfl rfl Try.sizeOf3 rfl) ?_
  refine Al_p (Pu_load1 rfl Try.isAgg3 rfl rfl) ?_
  refine Al_p (Pu_cmp rfl rfl rfl rfl) ?_
  refine Al_nil ?_
  refine Aw_cond rfl (fun h9 => ?_) (fun h9 => ?_)
  · (try simp only [decide_eq_true_eq, decide_eq_false_iff_not, Bool.and_eq_true, Bool.or_eq_true, Bool.and_eq_false_iff, Bool.or_eq_false_iff, Bool.not_eq_true', Bool.not_eq_false', beq_iff_eq, Bool.not_eq_eq_eq_not, Bool.not_true, Bool.not_false, List.length_map, Bool.and_true, Bool.and_false, Bool.false_and, Bool.true_and, Bool.or_false, Bool.false_or] at h9)
    refine Aw_seq (Aw_region ?_)
    refine Al_p (Pu_field 0 rfl Try.underlying34 rfl rfl Try.sizeOf3 rfl) ?_
    refine Al_p (Pu_load1 rfl Try.isAgg3 rfl rfl) ?_
    refine Al_p (Pu_field 0 rfl Try.underlying34 rfl rfl Try.sizeOf3 rfl) ?_
    refine Al_p (Pu_load1 rfl Try.isAgg3 rfl rfl) ?_
    refine Al_p (Pu_cmp rfl rfl rfl rfl) ?_
    refine Al_p Pu_mvr ?_
    refine Al_nil ?_
    refine Aw_ret ?_
    exact Sub.d (by unfold D.lessB; simp_all) -- ret 0
  · (try simp only [decide_eq_true_eq, decide_eq_false_iff_not, Bool.and_eq_true, Bool.or_eq_true, Bool.and_eq_false_iff, Bool.or_eq_false_iff, Bool.not_eq_true', Bool.not_eq_false', beq_iff_eq, Bool.not_eq_eq_eq_not, Bool.not_true, Bool.not_false, List.length_map, Bool.and_true, Bool.and_false, Bool.false_and, Bool.true_and, Bool.or_false, Bool.false_or] at h9)
    refine Aw_skip (Aw_seq (Aw_region ?_))
    refine Al_p (Pu_field 1 rfl Try.underlying34 rfl rfl Try.sizeOf3 rfl) ?_
    refine Al_p (Pu_load1 rfl Try.isAgg3 rfl rfl) ?_
    refine Al_p (Pu_field 1 rfl Try.underlying34 rfl rfl Try.sizeOf3 rfl) ?_
    refine Al_p (Pu_load1 rfl Try.isAgg3 rfl rfl) ?_
    refine Al_p (Pu_cmp rfl rfl rfl rfl) ?_
    refine Al_p Pu_mvr ?_
    refine Al_nil ?_
    refine Aw_ret ?_
    exact Sub.d (by unfold D.lessB; simp_all) -- ret 1
theorem rcheck_a (s : ByteArray) : ACall Try.prog 34 [tv s] (bv (K.checkB s)) := A.ofv (fun _ _ => by kernel_rfl) trivial fun M w vs ha => by
  obtain ⟨rfl, h⟩ := A.all1 ha
  exact (rcheck_any s h w).mono fun e w' ⟨h1, h2⟩ => ⟨h1, h2 ▸ Ev.Ext.refl _⟩
theorem rstcheck_a (n s : Int) : ACall Try.prog 35 [.row [iv n, iv s]] (bv (V.stampB n s)) := A.ofv (fun _ _ => by kernel_rfl) trivial fun M w vs ha => by
  obtain rfl := A.all1r (us := [.int .i64 n, .int .i64 s]) ha
  exact rstcheck_any n s w
set_option maxRecDepth 100000 in
theorem dadd_a (p : List Dep) (d : Dep) (hl : p.length ≤ 1000000) : ACall Try.prog 33 [.sl 3 (p.map Dep.row), .row d.row] (.sl 3 ((D.add p d).map Dep.row)) := by
  refine ACall_enter (fun _ _ => by kernel_rfl) Try.func33 rfl Try.ntmps33 Try.results33 (Nat.le_of_ble_eq_true rfl) (fun hok M0 w0 hnl => ?_)
  refine Aw_seq (Aw_region ?_)
  refine Al_p (Pu_boxN rfl rfl) ?_
  refine Al_p Pu_mvr ?_
  refine Al_nil (Aw_seq (Aw_region ?_))
  refine Al_p (Pu_field 0 rfl Try.underlying61 rfl rfl Try.sizeOf9 rfl) ?_
  refine Al_p (Pu_load1 rfl Try.isAgg9 rfl rfl) ?_
  refine Al_p (Pu_call (rcheck_a _) rfl ⟨Sub.rfl, trivial⟩) ?_
  refine Al_p Pu_mvr ?_
  refine Al_nil (Aw_seq (Aw_region ?_))
  refine Al_p (Pu_field 1 rfl Try.underlying61 rfl rfl Try.sizeOf34 rfl) ?_
  refine Al_p (Pu_loadN rfl Try.isAgg34 Try.sizeOf34 rfl (Nat.le_of_ble_eq_true rfl)) ?_
  refine Al_p (Pu_call (rstcheck_a _ _) rfl ⟨Sub.rfl, trivial⟩) ?_
  refine Al_p Pu_mvr ?_
  refine Al_nil (Aw_seq (Aw_seq (Aw_region ?_)))
  refine Al_p Pu_mvl ?_
  refine Al_p (Pu_not rfl rfl) ?_
  refine Al_p Pu_mvl ?_
  refine Al_st (St_gd [] rfl rfl rfl rfl trivial (fun hg20 => by exact Pu_move (.inl rfl) (by conv => lhs; whnf))) rfl (by decide) (by kernel_rfl) (by intro j b oj dj h1 h2 h3; cases h1; cases h2; cases h3; decide) ?_
  refine Al_st (St_gd [20] rfl rfl rfl rfl ⟨⟨_, rfl⟩, trivial⟩ (fun hg21 => Pu_not rfl rfl)) rfl (by decide) (by kernel_rfl) (by intro j b oj dj h1 h2 h3; cases h1; cases h2; cases h3; decide) ?_
  refine Al_p (Pu_or rfl rfl rfl rfl) ?_
  refine Al_nil ?_
  refine Aw_cond rfl (fun h22 => ?_) (fun h22 => ?_)
  · (try simp only [decide_eq_true_eq, decide_eq_false_iff_not, Bool.and_eq_true, Bool.or_eq_true, Bool.and_eq_false_iff, Bool.or_eq_false_iff, Bool.not_eq_true', Bool.not_eq_false', beq_iff_eq, Bool.not_eq_eq_eq_not, Bool.not_true, Bool.not_false, List.length_map, Bool.and_true, Bool.and_false, Bool.false_and, Bool.true_and, Bool.or_false, Bool.false_or] at h22)
    have hno : D.add p d = p := by
      unfold D.add D.okB
      rcases h22 with h | h <;> simp [h]
    refine Aw_seq (Aw_region ?_)
    refine Al_p Pu_mvl ?_
    refine Al_p Pu_mvr ?_
    refine Al_nil ?_
    refine Aw_ret ?_
    exact Sub.d (by rw [hno]) -- ret 0
  · (try simp only [decide_eq_true_eq, decide_eq_false_iff_not, Bool.and_eq_true, Bool.or_eq_true, Bool.and_eq_false_iff, Bool.or_eq_false_iff, Bool.not_eq_true', Bool.not_eq_false', beq_iff_eq, Bool.not_eq_eq_eq_not, Bool.not_true, Bool.not_false, List.length_map, Bool.and_true, Bool.and_false, Bool.false_and, Bool.true_and, Bool.or_false, Bool.false_or] at h22)
    have hdd : D.add p d = D.addF p d false := by simp [D.add, D.okB, h22.1, h22.2]
    refine Aw_skip (Aw_seq (Aw_region ?_))
    refine Al_p Pu_mvr ?_
    refine Al_nil (Aw_seq (Aw_region ?_))
    refine Al_p Pu_mvr ?_
    refine Al_nil (Aw_seq (Aw_seq (Aw_region ?_)))
    refine Al_p Pu_mvr ?_
    refine Al_nil (Aw_block ?_)
    refine Aw_own (j := 7) (k := 7) (T := 61) (n := 3) rfl (fun g0 => ?_)
    refine Aw_loopk (ι := Nat × Nat × Bool × (List Dep)) [0, 3] [] (fun (k, g, put, out) => [(9, .d (iv k)), (7, .ow 7 g), (8, .d (bv put))]) (fun (k, g, put, out) => [(7, g, .arr 61 3 (out.map Dep.row))]) (fun (k, g, put, out) => k ≤ p.length ∧ D.At p d k put out ∧ out.length ≤ 2 * k) (fun (k, g, put, out) => p.length - k) ((0, g0, false, [])) (⟨Nat.zero_le _, ⟨by simp [D.At], by simp⟩⟩) ⟨Sub.rfl, Sub.rfl, Sub.rfl, trivial⟩ ⟨rfl, trivial⟩ ?_
    rintro ⟨k, g, put, out⟩ ⟨hk0, ⟨hat, hlo⟩⟩
    refine Aw_seq (Aw_seq (Aw_region ?_))
    refine Al_p Pu_mvl ?_
    refine Al_p Pu_mvl ?_
    refine Al_p (Pu_len rfl Try.underlying35 rfl (by first | exact List.length_map .. | exact rfl)) ?_
    refine Al_p (Pu_cmp rfl rfl rfl rfl) ?_
    refine Al_nil ?_
    refine Aw_cond rfl (fun h27 => ?_) (fun h27 => ?_)
    · (try simp only [decide_eq_true_eq, decide_eq_false_iff_not, Bool.and_eq_true, Bool.or_eq_true, Bool.and_eq_false_iff, Bool.or_eq_false_iff, Bool.not_eq_true', Bool.not_eq_false', beq_iff_eq, Bool.not_eq_eq_eq_not, Bool.not_true, Bool.not_false, List.length_map, Bool.and_true, Bool.and_false, Bool.false_and, Bool.true_and, Bool.or_false, Bool.false_or] at h27)
      have hkl : k < p.length := by omega
      refine Aw_skip ?_
      -- join 0: live [0, 3, 7, 8, 9], turned [7, 8]
      refine Aw_seq (Aw_block (Aw_seq (Aw_region ?_)))
      refine Al_p Pu_mvl ?_
      refine Al_p Pu_mvl ?_
      refine Al_p (Pu_index rfl Try.underlying35 Try.sizeOf61 rfl rfl (rfl) (mapget (by omega))) ?_
      refine Al_p (Pu_loadN rfl Try.isAgg61 Try.sizeOf61 rfl (Nat.le_of_ble_eq_true rfl)) ?_
      refine Al_alloc rfl rfl rfl (by decide) Try.zeroValue61 rfl (by kernel_rfl) (fun g10 => ?_)
      refine Al_storeN rfl rfl rfl (by kernel_rfl) Try.isAgg61 Try.sizeOf61 rfl rfl rfl rfl (Nat.le_of_ble_eq_true rfl) ?_
      refine Al_nil ?_
      -- join 1: live [0, 3, 7, 8, 9, 10], turned [8]
      refine Aw_seq (Aw_seq (Aw_region ?_))
      refine Al_p (Pu_fieldb 0 rfl Try.underlying61 rfl rfl Try.sizeOf9 rfl) ?_
      refine Al_p (Pu_loadb rfl Try.isAgg9 rfl rfl rfl) ?_
      refine Al_p (Pu_field 0 rfl Try.underlying61 rfl rfl Try.sizeOf9 rfl) ?_
      refine Al_p (Pu_load1 rfl Try.isAgg9 rfl rfl) ?_
      refine Al_p (Pu_str rfl rfl rfl rfl) ?_
      refine Al_nil ?_
      refine Aw_cond rfl (fun h38 => ?_) (fun h38 => ?_)
      · skip
        have ha := hat.eq hkl h38
        -- join 2: live [0, 3, 7, 9, 10], turned []
        refine Aw_seq (Aw_seq (Aw_region ?_))
        refine Al_p (Pu_fieldb 1 rfl Try.underlying61 rfl rfl Try.sizeOf34 rfl) ?_
        refine Al_p (Pu_loadbN (r := [_, _]) rfl Try.isAgg34 Try.sizeOf34 rfl rfl rfl rfl) ?_
        refine Al_p (Pu_field 1 rfl Try.underlying61 rfl rfl Try.sizeOf34 rfl) ?_
        refine Al_p (Pu_loadN rfl Try.isAgg34 Try.sizeOf34 rfl (Nat.le_of_ble_eq_true rfl)) ?_
        refine Al_p (Pu_call (rless_a _ _ _ _) rfl ⟨Sub.rfl, Sub.rfl, trivial⟩) ?_
        refine Al_nil ?_
        refine Aw_cond rfl (fun h43 => ?_) (fun h43 => ?_)
        · skip
          rw [h43] at ha
          refine Aw_region ?_
          refine Al_p (Pu_loadN rfl Try.isAgg61 Try.sizeOf61 rfl (Nat.le_of_ble_eq_true rfl)) ?_
          refine Al_storeN rfl rfl rfl (by kernel_rfl) Try.isAgg61 Try.sizeOf61 rfl rfl rfl rfl (Nat.le_of_ble_eq_true rfl) ?_
          refine Al_nil (Aw_region ?_)
          refine Al_p Pu_mvr ?_
          refine Al_nil ?_
          -- join 3: live [0, 3, 7, 8, 9, 10], turned [7, 8]
          refine Aw_seq (Aw_seq (Aw_region ?_))
          refine Al_p Pu_mvl ?_
          refine Al_p (Pu_not rfl rfl) ?_
          refine Al_p Pu_mvl ?_
          refine Al_st (St_gd [] rfl rfl rfl rfl trivial (fun hg48 => Pu_fieldb 0 rfl Try.underlying61 rfl rfl Try.sizeOf9 rfl)) rfl (by decide) (by kernel_rfl) (by intro j b oj dj h1 h2 h3; cases h1; cases h2; cases h3; decide) ?_
          refine Al_st (St_gd [48] rfl rfl rfl rfl ⟨⟨_, rfl⟩, trivial⟩ (fun hg49 => Pu_loadb rfl Try.isAgg9 rfl rfl rfl)) rfl (by decide) (by kernel_rfl) (by intro j b oj dj h1 h2 h3; cases h1; cases h2; cases h3; decide) ?_
          refine Al_st (St_gd [] rfl rfl rfl rfl trivial (fun hg50 => Pu_field 0 rfl Try.underlying61 rfl rfl Try.sizeOf9 rfl)) rfl (by decide) (by kernel_rfl) (by intro j b oj dj h1 h2 h3; cases h1; cases h2; cases h3; decide) ?_
          refine Al_st (St_gd [50] rfl rfl rfl rfl ⟨⟨_, rfl⟩, trivial⟩ (fun hg51 => Pu_load1 rfl Try.isAgg9 rfl rfl)) rfl (by decide) (by kernel_rfl) (by intro j b oj dj h1 h2 h3; cases h1; cases h2; cases h3; decide) ?_
          refine Al_st (St_gd [49, 51] rfl rfl rfl rfl ⟨⟨_, rfl⟩, ⟨_, rfl⟩, trivial⟩ (fun hg52 => Pu_str rfl rfl rfl rfl)) rfl (by decide) (by kernel_rfl) (by intro j b oj dj h1 h2 h3; cases h1; cases h2; cases h3; decide) ?_
          refine Al_p (Pu_and rfl rfl rfl rfl) ?_
          refine Al_nil ?_
          refine Aw_cond rfl (fun h53 => ?_) (fun h53 => ?_)
          · (exfalso; revert h53; simp; done) -- next 0.0
          · first
            | (exfalso; revert h53; simp; done)
            | (
                skip
                refine Aw_skip (Aw_region ?_)
                refine Al_p Pu_mvl ?_
                refine Al_p (Pu_loadbN (r := [_, _, _]) rfl Try.isAgg61 Try.sizeOf61 rfl rfl rfl rfl) ?_
                refine Al_p (Pu_slice1 rfl Try.underlying35 Try.sizeOf61 Try.zeroValue61 rfl (by decide) (by decide) (by kernel_rfl) rfl rfl rfl) ?_
                refine Al_append rfl rfl rfl (by decide) (by kernel_rfl) elem35 (by decide) Try.sizeOf61 rfl rfl rfl (by simp; omega) (by decide) (fun g61 => ?_)
                refine Al_p Pu_mvr ?_
                refine Al_nil (Aw_region ?_)
                refine Al_p Pu_mvl ?_
                refine Al_p (Pu_add rfl rfl rfl (fun h1 h2 => by simp only [A.inI, A.maxI] at *; omega)) ?_
                refine Al_p Pu_mvr ?_
                refine Al_nil ?_
                exact ⟨(k + 1, g61, true, out ++ [d]), ⟨by omega, ⟨by simpa using ha, by simp; omega⟩⟩, by simp only []; omega, Le.ov ⟨Sub.num (by omega), Sub.rfl, Sub.rfl, trivial⟩ ⟨Sub.rfl, Sub.rfl, trivial⟩ ⟨obeq (by rw [List.map_append]; rfl), trivial⟩ trivial⟩) -- loop 0 next.1
        · skip
          rw [h43] at ha
          refine Aw_skip (Aw_region ?_)
          refine Al_p Pu_mvr ?_
          refine Al_nil ?_
          -- join 3: live [0, 3, 7, 8, 9, 10], turned [7, 8]
          refine Aw_seq (Aw_seq (Aw_region ?_))
          refine Al_p Pu_mvl ?_
          refine Al_p (Pu_not rfl rfl) ?_
          refine Al_p Pu_mvl ?_
          refine Al_st (St_gd [] rfl rfl rfl rfl trivial (fun hg48 => Pu_fieldb 0 rfl Try.underlying61 rfl rfl Try.sizeOf9 rfl)) rfl (by decide) (by kernel_rfl) (by intro j b oj dj h1 h2 h3; cases h1; cases h2; cases h3; decide) ?_
          refine Al_st (St_gd [48] rfl rfl rfl rfl ⟨⟨_, rfl⟩, trivial⟩ (fun hg49 => Pu_loadb rfl Try.isAgg9 rfl rfl rfl)) rfl (by decide) (by kernel_rfl) (by intro j b oj dj h1 h2 h3; cases h1; cases h2; cases h3; decide) ?_
          refine Al_st (St_gd [] rfl rfl rfl rfl trivial (fun hg50 => Pu_field 0 rfl Try.underlying61 rfl rfl Try.sizeOf9 rfl)) rfl (by decide) (by kernel_rfl) (by intro j b oj dj h1 h2 h3; cases h1; cases h2; cases h3; decide) ?_
          refine Al_st (St_gd [50] rfl rfl rfl rfl ⟨⟨_, rfl⟩, trivial⟩ (fun hg51 => Pu_load1 rfl Try.isAgg9 rfl rfl)) rfl (by decide) (by kernel_rfl) (by intro j b oj dj h1 h2 h3; cases h1; cases h2; cases h3; decide) ?_
          refine Al_st (St_gd [49, 51] rfl rfl rfl rfl ⟨⟨_, rfl⟩, ⟨_, rfl⟩, trivial⟩ (fun hg52 => Pu_str rfl rfl rfl rfl)) rfl (by decide) (by kernel_rfl) (by intro j b oj dj h1 h2 h3; cases h1; cases h2; cases h3; decide) ?_
          refine Al_p (Pu_and rfl rfl rfl rfl) ?_
          refine Al_nil ?_
          refine Aw_cond rfl (fun h53 => ?_) (fun h53 => ?_)
          · (exfalso; revert h53; simp; done) -- next 0.2
          · first
            | (exfalso; revert h53; simp; done)
            | (
                skip
                refine Aw_skip (Aw_region ?_)
                refine Al_p Pu_mvl ?_
                refine Al_p (Pu_loadbN (r := [_, _, _]) rfl Try.isAgg61 Try.sizeOf61 rfl rfl rfl rfl) ?_
                refine Al_p (Pu_slice1 rfl Try.underlying35 Try.sizeOf61 Try.zeroValue61 rfl (by decide) (by decide) (by kernel_rfl) rfl rfl rfl) ?_
                refine Al_append rfl rfl rfl (by decide) (by kernel_rfl) elem35 (by decide) Try.sizeOf61 rfl rfl rfl (by simp; omega) (by decide) (fun g61 => ?_)
                refine Al_p Pu_mvr ?_
                refine Al_nil (Aw_region ?_)
                refine Al_p Pu_mvl ?_
                refine Al_p (Pu_add rfl rfl rfl (fun h1 h2 => by simp only [A.inI, A.maxI] at *; omega)) ?_
                refine Al_p Pu_mvr ?_
                refine Al_nil ?_
                exact ⟨(k + 1, g61, true, out ++ [p[k]]), ⟨by omega, ⟨by simpa using ha, by simp; omega⟩⟩, by simp only []; omega, Le.ov ⟨Sub.num (by omega), Sub.rfl, Sub.rfl, trivial⟩ ⟨Sub.rfl, Sub.rfl, trivial⟩ ⟨obeq (by rw [List.map_append]; rfl), trivial⟩ trivial⟩) -- loop 0 next.3
      · skip
        refine Aw_skip ?_
        -- join 3: live [0, 3, 7, 8, 9, 10], turned [7, 8]
        refine Aw_seq (Aw_seq (Aw_region ?_))
        refine Al_p Pu_mvl ?_
        refine Al_p (Pu_not rfl rfl) ?_
        refine Al_p Pu_mvl ?_
        refine Al_st (St_gd [] rfl rfl rfl rfl trivial (fun hg48 => Pu_fieldb 0 rfl Try.underlying61 rfl rfl Try.sizeOf9 rfl)) rfl (by decide) (by kernel_rfl) (by intro j b oj dj h1 h2 h3; cases h1; cases h2; cases h3; decide) ?_
        refine Al_st (St_gd [48] rfl rfl rfl rfl ⟨⟨_, rfl⟩, trivial⟩ (fun hg49 => Pu_loadb rfl Try.isAgg9 rfl rfl rfl)) rfl (by decide) (by kernel_rfl) (by intro j b oj dj h1 h2 h3; cases h1; cases h2; cases h3; decide) ?_
        refine Al_st (St_gd [] rfl rfl rfl rfl trivial (fun hg50 => Pu_field 0 rfl Try.underlying61 rfl rfl Try.sizeOf9 rfl)) rfl (by decide) (by kernel_rfl) (by intro j b oj dj h1 h2 h3; cases h1; cases h2; cases h3; decide) ?_
        refine Al_st (St_gd [50] rfl rfl rfl rfl ⟨⟨_, rfl⟩, trivial⟩ (fun hg51 => Pu_load1 rfl Try.isAgg9 rfl rfl)) rfl (by decide) (by kernel_rfl) (by intro j b oj dj h1 h2 h3; cases h1; cases h2; cases h3; decide) ?_
        refine Al_st (St_gd [49, 51] rfl rfl rfl rfl ⟨⟨_, rfl⟩, ⟨_, rfl⟩, trivial⟩ (fun hg52 => Pu_str rfl rfl rfl rfl)) rfl (by decide) (by kernel_rfl) (by intro j b oj dj h1 h2 h3; cases h1; cases h2; cases h3; decide) ?_
        refine Al_p (Pu_and rfl rfl rfl rfl) ?_
        refine Al_nil ?_
        refine Aw_cond rfl (fun h53 => ?_) (fun h53 => ?_)
        · first
          | (exfalso; revert h53; simp; done)
          | (
              skip
              have hb : put = false ∧ D.ltB p[k] d = false := by
                revert h53; unfold D.ltB; cases put <;> simp_all
              obtain ⟨rfl, hlt⟩ := hb
              have ha := hat.put hkl h38 hlt
              refine Aw_seq (Aw_region ?_)
              refine Al_p Pu_mvl ?_
              refine Al_p (Pu_loadN rfl Try.isAgg61 Try.sizeOf61 rfl (Nat.le_of_ble_eq_true rfl)) ?_
              refine Al_p (Pu_slice1 rfl Try.underlying35 Try.sizeOf61 Try.zeroValue61 rfl (by decide) (by decide) (by kernel_rfl) rfl rfl rfl) ?_
              refine Al_append rfl rfl rfl (by decide) (by kernel_rfl) elem35 (by decide) Try.sizeOf61 rfl rfl rfl (by simp; omega) (by decide) (fun g57 => ?_)
              refine Al_p Pu_mvr ?_
              refine Al_nil (Aw_region ?_)
              refine Al_p Pu_mvr ?_
              refine Al_nil (Aw_region ?_)
              refine Al_p Pu_mvl ?_
              refine Al_p (Pu_loadbN (r := [_, _, _]) rfl Try.isAgg61 Try.sizeOf61 rfl rfl rfl rfl) ?_
              refine Al_p (Pu_slice1 rfl Try.underlying35 Try.sizeOf61 Try.zeroValue61 rfl (by decide) (by decide) (by kernel_rfl) rfl rfl rfl) ?_
              refine Al_append rfl rfl rfl (by decide) (by kernel_rfl) elem35 (by decide) Try.sizeOf61 rfl rfl rfl (by simp; omega) (by decide) (fun g61 => ?_)
              refine Al_p Pu_mvr ?_
              refine Al_nil (Aw_region ?_)
              refine Al_p Pu_mvl ?_
              refine Al_p (Pu_add rfl rfl rfl (fun h1 h2 => by simp only [A.inI, A.maxI] at *; omega)) ?_
              refine Al_p Pu_mvr ?_
              refine Al_nil ?_
              exact ⟨(k + 1, g61, true, out ++ [d] ++ [p[k]]), ⟨by omega, ⟨ha, by simp; omega⟩⟩, by simp only []; omega, Le.ov ⟨Sub.num (by omega), Sub.rfl, Sub.rfl, trivial⟩ ⟨Sub.rfl, Sub.rfl, trivial⟩ ⟨obeq (by rw [List.map_append, List.map_append]; rfl), trivial⟩ trivial⟩) -- loop 0 next.4
        · first
          | (exfalso; revert h53; simp; done)
          | (
              skip
              have ha : D.At p d (k + 1) put (out ++ [p[k]]) := by
                cases hp : put
                · rw [hp] at h53 hat
                  refine hat.lt hkl h38 ?_
                  have h38' := h38
                  unfold D.ltB
                  simp only [Bool.not_false, Bool.true_and, Bool.not_eq_false', Bool.or_eq_true] at h53
                  rcases h53 with h | h
                  · exact h
                  · rw [h38'] at h; cases h
                · rw [hp] at hat
                  exact hat.skip hkl h38
              refine Aw_skip (Aw_region ?_)
              refine Al_p Pu_mvl ?_
              refine Al_p (Pu_loadbN (r := [_, _, _]) rfl Try.isAgg61 Try.sizeOf61 rfl rfl rfl rfl) ?_
              refine Al_p (Pu_slice1 rfl Try.underlying35 Try.sizeOf61 Try.zeroValue61 rfl (by decide) (by decide) (by kernel_rfl) rfl rfl rfl) ?_
              refine Al_append rfl rfl rfl (by decide) (by kernel_rfl) elem35 (by decide) Try.sizeOf61 rfl rfl rfl (by simp; omega) (by decide) (fun g61 => ?_)
              refine Al_p Pu_mvr ?_
              refine Al_nil (Aw_region ?_)
              refine Al_p Pu_mvl ?_
              refine Al_p (Pu_add rfl rfl rfl (fun h1 h2 => by simp only [A.inI, A.maxI] at *; omega)) ?_
              refine Al_p Pu_mvr ?_
              refine Al_nil ?_
              exact ⟨(k + 1, g61, put, out ++ [p[k]]), ⟨by omega, ⟨ha, by simp; omega⟩⟩, by simp only []; omega, Le.ov ⟨Sub.num (by omega), Sub.rfl, Sub.rfl, trivial⟩ ⟨Sub.rfl, Sub.rfl, trivial⟩ ⟨obeq (by rw [List.map_append]; rfl), trivial⟩ trivial⟩) -- loop 0 next.5
    · (try simp only [decide_eq_true_eq, decide_eq_false_iff_not, Bool.and_eq_true, Bool.or_eq_true, Bool.and_eq_false_iff, Bool.or_eq_false_iff, Bool.not_eq_true', Bool.not_eq_false', beq_iff_eq, Bool.not_eq_eq_eq_not, Bool.not_true, Bool.not_false, List.length_map, Bool.and_true, Bool.and_false, Bool.false_and, Bool.true_and, Bool.or_false, Bool.false_or] at h27)
      obtain rfl : k = p.length := by omega
      have he : out ++ D.addF [] d put = D.add p d := by rw [hdd]; have := hat; unfold D.At at this; rwa [List.drop_length] at this
      refine Aw_exit ?_
      -- join 4: live [7], turned [7]
      refine Aw_seq (Aw_seq (Aw_region ?_))
      refine Al_p Pu_mvl ?_
      refine Al_p (Pu_not rfl rfl) ?_
      refine Al_nil ?_
      refine Aw_cond rfl (fun h63 => ?_) (fun h63 => ?_)
      · (try simp only [decide_eq_true_eq, decide_eq_false_iff_not, Bool.and_eq_true, Bool.or_eq_true, Bool.and_eq_false_iff, Bool.or_eq_false_iff, Bool.not_eq_true', Bool.not_eq_false', beq_iff_eq, Bool.not_eq_eq_eq_not, Bool.not_true, Bool.not_false, List.length_map, Bool.and_true, Bool.and_false, Bool.false_and, Bool.true_and, Bool.or_false, Bool.false_or] at h63)
        have he2 : out ++ [d] = D.add p d := by rw [← he]; simp_all [D.addF]
        refine Aw_region ?_
        refine Al_p Pu_mvl ?_
        refine Al_p (Pu_loadN rfl Try.isAgg61 Try.sizeOf61 rfl (Nat.le_of_ble_eq_true rfl)) ?_
        refine Al_p (Pu_slice1 rfl Try.underlying35 Try.sizeOf61 Try.zeroValue61 rfl (by decide) (by decide) (by kernel_rfl) rfl rfl rfl) ?_
        refine Al_append rfl rfl rfl (by decide) (by kernel_rfl) elem35 (by decide) Try.sizeOf61 rfl rfl rfl (by simp; omega) (by decide) (fun g67 => ?_)
        refine Al_p Pu_mvr ?_
        refine Al_nil (Aw_seq (Aw_region ?_))
        refine Al_p Pu_mvl ?_
        refine Al_p Pu_mvr ?_
        refine Al_nil ?_
        refine Aw_frz hnl (k := 7) [4] rfl ⟨rfl, trivial⟩ ?_
        refine Aw_ret ?_
        exact Sub.d (by rw [← he2, List.map_append]; rfl) -- ret 1
      · (try simp only [decide_eq_true_eq, decide_eq_false_iff_not, Bool.and_eq_true, Bool.or_eq_true, Bool.and_eq_false_iff, Bool.or_eq_false_iff, Bool.not_eq_true', Bool.not_eq_false', beq_iff_eq, Bool.not_eq_eq_eq_not, Bool.not_true, Bool.not_false, List.length_map, Bool.and_true, Bool.and_false, Bool.false_and, Bool.true_and, Bool.or_false, Bool.false_or] at h63)
        have he2 : out = D.add p d := by rw [← he]; simp_all [D.addF]
        refine Aw_skip (Aw_seq (Aw_region ?_))
        refine Al_p Pu_mvl ?_
        refine Al_p Pu_mvr ?_
        refine Al_nil ?_
        refine Aw_frz hnl (k := 7) [4] rfl ⟨rfl, trivial⟩ ?_
        refine Aw_ret ?_
        exact Sub.d (by rw [he2]) -- ret 2
end Go.Proofs.Ytlcahhlghjbnkaa
end

section
namespace Go.Proofs.Ytlcahhlghjbnkaa
open Go.RowKit R
namespace L
def cutD (d : Dep) : Dep := ⟨d.key.extract 0 12, d.n, d.s⟩
def addsD (l : List Dep) : List Dep := l.foldl (fun p d => D.add p (cutD d)) []
def seen5 (l : List Dep) : List Dep := addsD (l.take 5)
def cutE (e : Event) : Event := ⟨e.kind, e.client, e.key.extract 0 12, e.n, e.s, seen5 e.seen⟩
def few (l : List Event) : List Event := (l.take 10).map cutE
def good (l : List Event) : List Event := (few l).filter check
theorem addsD_snoc (l : List Dep) (d : Dep) : addsD (l ++ [d]) = D.add (addsD l) (cutD d) := by simp [addsD]
theorem cut_size (s : ByteArray) : (s.extract 0 12).size ≤ 12 := by simp; omega
theorem addsD_mem (l : List Dep) : ∀ x ∈ addsD l, ∃ d ∈ l, x = cutD d := by
  have : ∀ (l : List Dep) (p : List Dep), ∀ x ∈ l.foldl (fun p d => D.add p (cutD d)) p, x ∈ p ∨ ∃ d ∈ l, x = cutD d := by
    intro l
    induction l with
    | nil => intro p x h; exact .inl h
    | cons d r ih =>
      intro p x h
      rw [List.foldl_cons] at h
      rcases ih _ x h with h | ⟨y, hy, e⟩
      · rcases D.add_mem p _ x h with h | h
        · exact .inl h
        · exact .inr ⟨d, by simp, h⟩
      · exact .inr ⟨y, by simp [hy], e⟩
  intro x hx
  rcases this l [] x hx with h | h
  · cases h
  · exact h
theorem addsD_len (l : List Dep) : (addsD l).length ≤ l.length := by
  have : ∀ (l : List Dep) (p : List Dep), (l.foldl (fun p d => D.add p (cutD d)) p).length ≤ p.length + l.length := by
    intro l
    induction l with
    | nil => intro p; simp
    | cons d r ih =>
      intro p
      rw [List.foldl_cons]
      have h1 := ih (D.add p (cutD d))
      have h2 := D.add_len p (cutD d)
      simp only [List.length_cons]; omega
  have := this l []
  simpa [addsD] using this
theorem few_fit (l : List Event) : fit (few l) := by
  intro e he
  unfold few at he
  obtain ⟨x, _, rfl⟩ := List.mem_map.1 he
  refine ⟨Nat.le_trans (cut_size _) (by omega), fun d hd => ?_⟩
  obtain ⟨y, _, rfl⟩ := addsD_mem _ d hd
  exact Nat.le_trans (cut_size _) (by omega)
theorem few_len (l : List Event) : (few l).length ≤ 10 := by unfold few; simp; omega
theorem good_fit (l : List Event) : fit (good l) := fun e he => few_fit l e (List.mem_filter.1 he).1
theorem good_len (l : List Event) : (good l).length ≤ 10 := Nat.le_trans (List.length_filter_le _ _) (few_len l)
theorem good_check (l : List Event) : ∀ e ∈ good l, check e = true := fun e he => (List.mem_filter.1 he).2
end L
end Go.Proofs.Ytlcahhlghjbnkaa
end

section
namespace Go.Proofs.Ytlcahhlghjbnkaa
open Go.RowKit R
theorem R.Grow.caps {α : Type} [GoT α] {e : TypeId} {K : Blocks} {B : Nat} {w : World} {v : Value} {xs : List α} (h : Grow e K B w v xs) : ∃ a cap, v = .slice a xs.length cap ∧ xs.length ≤ cap := by
  obtain ⟨rows, hown, _⟩ := h.ex
  rcases hown.2 with ⟨rfl, h0⟩ | ⟨g, cap, cur, rfl, _, _, hnc, _⟩
  · exact ⟨none, 0, by rw [h0], by omega⟩
  · exact ⟨_, cap, rfl, hnc⟩
end Go.Proofs.Ytlcahhlghjbnkaa
end

section
namespace Go.Proofs.Ytlcahhlghjbnkaa
open Go.RowKit A R
theorem lbytes_a (l : List Event) (hl : l.length ≤ 1000) (hk : L.fit l) : ACall Try.prog 11 [.sl 6 (l.map Event.row)] (tv (V.ba (L.bytes l))) := A.ofv (fun _ _ => by kernel_rfl) (by
    have h1 := L.cat_len _ (L.parts_size hk)
    have h2 : (L.parts l).length ≤ 1000 := by
      have := L.partsF_len l (fun _ => [])
      unfold L.parts; split
      · omega
      · simp
    have h3 := V.num_len64 (n := l.length) (by omega)
    simp only [vok, ba_size, A.maxI]
    unfold L.bytes; split
    · simp only [List.length_append]; omega
    · simp) fun M w vs ha => by
  obtain ⟨x, xs, rfl, h1, h2⟩ := allc ha
  obtain rfl := all0 h2
  exact lbytes_any l x _ w (sl_of (α := Event) h1) hl hk
theorem rlcheck_a (e : Event) : ACall Try.prog 16 [.row e.row] (bv (L.check e)) := A.ofv (fun _ _ => by kernel_rfl) trivial fun M w vs ha => by
  obtain ⟨x, xs, rfl, h1, h2⟩ := allc ha
  obtain rfl := all0 h2
  obtain ⟨cs, rfl, v, rfl, hk, hs⟩ := A.row_of (α := Event) h1
  exact rlcheck_any e v _ w hk.1 hs
theorem lawake_a : ACall Try.prog 5 [] (bv true) := A.ofv (fun _ _ => by kernel_rfl) trivial fun M w vs ha => by
  obtain rfl := all0 ha
  exact lawake_any w
theorem lshort_a (s : ByteArray) : ACall Try.prog 32 [tv s] (tv (s.extract 0 12)) := A.ofv (fun _ _ => by kernel_rfl) (by simp [vok, A.maxI]; omega) fun M w vs ha => by
  obtain ⟨rfl, _⟩ := A.all1 ha
  exact (lshort_any s w).mono fun e w' ⟨h1, h2⟩ => ⟨h1, h2 ▸ Ev.Ext.refl _⟩
end Go.Proofs.Ytlcahhlghjbnkaa
end

section
namespace Go.Proofs.Ytlcahhlghjbnkaa
open Go.RowKit A
instance : DecidableEq Event := fun a b => decidable_of_iff (a.kind = b.kind ∧ a.client = b.client ∧ a.key = b.key ∧ a.n = b.n ∧ a.s = b.s ∧ a.seen = b.seen) (by cases a; cases b; simp)
theorem ev_eqB (a b : Event) : (decide (a.kind = b.kind) && decide (a.client = b.client) && (a.key.toList == b.key.toList) && ((a.n == b.n) && (a.s == b.s)) && decide (a.seen = b.seen)) = decide (a = b) := by
  rw [str_eqB]
  cases a; cases b
  rw [Bool.eq_iff_iff]
  simp only [Bool.and_eq_true, beq_iff_eq, decide_eq_true_eq, Event.mk.injEq]
  constructor
  · rintro ⟨⟨⟨⟨h1, h2⟩, h3⟩, h4, h5⟩, h6⟩
    subst h1 h2 h3 h4 h5 h6
    simp
  · intro h
    simp [h]
set_option maxRecDepth 100000 in
theorem esame_a (l m : List Event) : ACall Try.prog 10 [.sl 6 (l.map Event.row), .sl 6 (m.map Event.row)] (bv (decide (l = m))) := by
  refine ACall_enter (fun _ _ => by kernel_rfl) Try.func10 rfl Try.ntmps10 Try.results10 (Nat.le_of_ble_eq_true rfl) (fun hok M0 w0 hnl => ?_)
  have hlen := (hok _ (List.mem_cons_self ..)).len
  rw [List.length_map] at hlen
  refine Aw_seq (Aw_region ?_)
  refine Al_p Pu_mvr ?_
  refine Al_nil (Aw_seq (Aw_seq (Aw_region ?_)))
  refine Al_p Pu_mvl ?_
  refine Al_p (Pu_len rfl Try.underlying22 rfl (by first | exact List.length_map .. | exact rfl)) ?_
  refine Al_p Pu_mvl ?_
  refine Al_p (Pu_len rfl Try.underlying22 rfl (by first | exact List.length_map .. | exact rfl)) ?_
  refine Al_p (Pu_cmp rfl rfl rfl rfl) ?_
  refine Al_nil ?_
  refine Aw_cond rfl (fun h11 => ?_) (fun h11 => ?_)
  · (try simp only [decide_eq_true_eq, decide_eq_false_iff_not, Bool.and_eq_true, Bool.or_eq_true, Bool.and_eq_false_iff, Bool.or_eq_false_iff, Bool.not_eq_true', Bool.not_eq_false', beq_iff_eq, Bool.not_eq_eq_eq_not, Bool.not_true, Bool.not_false, List.length_map, Bool.and_true, Bool.and_false, Bool.false_and, Bool.true_and, Bool.or_false, Bool.false_or] at h11)
    refine Aw_seq (Aw_region ?_)
    refine Al_p Pu_mvr ?_
    refine Al_nil ?_
    refine Aw_ret ?_
    exact Sub.bool (by rw [L.same_len (by omega)]) -- ret 0
  · (try simp only [decide_eq_true_eq, decide_eq_false_iff_not, Bool.and_eq_true, Bool.or_eq_true, Bool.and_eq_false_iff, Bool.or_eq_false_iff, Bool.not_eq_true', Bool.not_eq_false', beq_iff_eq, Bool.not_eq_eq_eq_not, Bool.not_true, Bool.not_false, List.length_map, Bool.and_true, Bool.and_false, Bool.false_and, Bool.true_and, Bool.or_false, Bool.false_or] at h11)
    refine Aw_skip (Aw_seq (Aw_seq (Aw_region ?_)))
    refine Al_p Pu_mvr ?_
    refine Al_nil (Aw_block ?_)
    refine Aw_loopk (ι := Nat) [0, 1] [] (fun k => [(5, .d (iv k))]) (fun k => []) (fun k => k ≤ l.length ∧ l.take k = m.take k) (fun k => l.length - k) (0) (⟨Nat.zero_le _, rfl⟩) ⟨Sub.rfl, trivial⟩ trivial ?_
    rintro k ⟨hk0, he⟩
    refine Aw_seq (Aw_seq (Aw_region ?_))
    refine Al_p Pu_mvl ?_
    refine Al_p Pu_mvl ?_
    refine Al_p (Pu_len rfl Try.underlying22 rfl (by first | exact List.length_map .. | exact rfl)) ?_
    refine Al_p (Pu_cmp rfl rfl rfl rfl) ?_
    refine Al_nil ?_
    refine Aw_cond rfl (fun h15 => ?_) (fun h15 => ?_)
    · (try simp only [decide_eq_true_eq, decide_eq_false_iff_not, Bool.and_eq_true, Bool.or_eq_true, Bool.and_eq_false_iff, Bool.or_eq_false_iff, Bool.not_eq_true', Bool.not_eq_false', beq_iff_eq, Bool.not_eq_eq_eq_not, Bool.not_true, Bool.not_false, List.length_map, Bool.and_true, Bool.and_false, Bool.false_and, Bool.true_and, Bool.or_false, Bool.false_or] at h15)
      have hkl : k < l.length := by omega
      have hkm : k < m.length := by omega
      refine Aw_skip (Aw_seq (Aw_block (Aw_seq ?_)))
      refine Aw_draw 11 (by kernel_rfl) (by kernel_rfl) ?_
      refine Dr_p Pu_mvl ?_
      refine Dr_p Pu_mvl ?_
      refine Dr_p (Pu_index rfl Try.underlying22 Try.sizeOf37 rfl rfl (rfl) (mapget hkl)) ?_
      refine Dr_p (Pu_field 5 rfl Try.underlying37 rfl rfl Try.sizeOf35 rfl) ?_
      refine Dr_p (Pu_load1 rfl Try.isAgg35 rfl rfl) ?_
      refine Dr_p Pu_mvl ?_
      refine Dr_p Pu_mvl ?_
      refine Dr_p (Pu_index rfl Try.underlying22 Try.sizeOf37 rfl rfl (rfl) (mapget hkm)) ?_
      refine Dr_p (Pu_field 5 rfl Try.underlying37 rfl rfl Try.sizeOf35 rfl) ?_
      refine Dr_p (Pu_load1 rfl Try.isAgg35 rfl rfl) ?_
      refine Dr_p (Pu_call (dsame_a l[k].seen m[k].seen) rfl ⟨Sub.rfl, Sub.rfl, trivial⟩) ?_
      refine Dr_nil ?_
      refine Al_p Pu_mvr ?_
      refine Al_nil (Aw_seq ?_)
      refine Aw_draw 54 (by kernel_rfl) (by kernel_rfl) ?_
      refine Dr_p Pu_mvl ?_
      refine Dr_p (Pu_not rfl rfl) ?_
      refine Dr_p Pu_mvl ?_
      refine Dr_st (St_gd [] rfl rfl rfl rfl trivial (fun hg32 => by exact Pu_move (.inl rfl) (by conv => lhs; whnf))) rfl ?_
      refine Dr_st (St_gd [] rfl rfl rfl rfl trivial (fun hg33 => by exact Pu_move (.inl rfl) (by conv => lhs; whnf))) rfl ?_
      refine Dr_st (St_gd [32, 33] rfl rfl rfl rfl ⟨⟨_, rfl⟩, ⟨_, rfl⟩, trivial⟩ (fun hg34 => Pu_index rfl Try.underlying22 Try.sizeOf37 rfl rfl (rfl) (mapget hkl))) rfl ?_
      refine Dr_st (St_gd [34] rfl rfl rfl rfl ⟨⟨_, rfl⟩, trivial⟩ (fun hg35 => Pu_field 0 rfl Try.underlying37 rfl rfl Try.sizeOf3 rfl)) rfl ?_
      refine Dr_st (St_gd [35] rfl rfl rfl rfl ⟨⟨_, rfl⟩, trivial⟩ (fun hg36 => Pu_load1 rfl Try.isAgg3 rfl rfl)) rfl ?_
      refine Dr_st (St_gd [] rfl rfl rfl rfl trivial (fun hg37 => by exact Pu_move (.inl rfl) (by conv => lhs; whnf))) rfl ?_
      refine Dr_st (St_gd [] rfl rfl rfl rfl trivial (fun hg38 => by exact Pu_move (.inl rfl) (by conv => lhs; whnf))) rfl ?_
      refine Dr_st (St_gd [37, 38] rfl rfl rfl rfl ⟨⟨_, rfl⟩, ⟨_, rfl⟩, trivial⟩ (fun hg39 => Pu_index rfl Try.underlying22 Try.sizeOf37 rfl rfl (rfl) (mapget hkm))) rfl ?_
      refine Dr_st (St_gd [39] rfl rfl rfl rfl ⟨⟨_, rfl⟩, trivial⟩ (fun hg40 => Pu_field 0 rfl Try.underlying37 rfl rfl Try.sizeOf3 rfl)) rfl ?_
      refine Dr_st (St_gd [40] rfl rfl rfl rfl ⟨⟨_, rfl⟩, trivial⟩ (fun hg41 => Pu_load1 rfl Try.isAgg3 rfl rfl)) rfl ?_
      refine Dr_st (St_gd [36, 41] rfl rfl rfl rfl ⟨⟨_, rfl⟩, ⟨_, rfl⟩, trivial⟩ (fun hg42 => Pu_cmp rfl rfl rfl rfl)) rfl ?_
      refine Dr_p (Pu_or rfl rfl rfl rfl) ?_
      refine Dr_p Pu_mvl ?_
      refine Dr_st (St_gd [] rfl rfl rfl rfl trivial (fun hg45 => by exact Pu_move (.inl rfl) (by conv => lhs; whnf))) rfl ?_
      refine Dr_st (St_gd [] rfl rfl rfl rfl trivial (fun hg46 => by exact Pu_move (.inl rfl) (by conv => lhs; whnf))) rfl ?_
      refine Dr_st (St_gd [45, 46] rfl rfl rfl rfl ⟨⟨_, rfl⟩, ⟨_, rfl⟩, trivial⟩ (fun hg47 => Pu_index rfl Try.underlying22 Try.sizeOf37 rfl rfl (rfl) (mapget hkl))) rfl ?_
      refine Dr_st (St_gd [47] rfl rfl rfl rfl ⟨⟨_, rfl⟩, trivial⟩ (fun hg48 => Pu_field 1 rfl Try.underlying37 rfl rfl Try.sizeOf3 rfl)) rfl ?_
      refine Dr_st (St_gd [48] rfl rfl rfl rfl ⟨⟨_, rfl⟩, trivial⟩ (fun hg49 => Pu_load1 rfl Try.isAgg3 rfl rfl)) rfl ?_
      refine Dr_st (St_gd [] rfl rfl rfl rfl trivial (fun hg50 => by exact Pu_move (.inl rfl) (by conv => lhs; whnf))) rfl ?_
      refine Dr_st (St_gd [] rfl rfl rfl rfl trivial (fun hg51 => by exact Pu_move (.inl rfl) (by conv => lhs; whnf))) rfl ?_
      refine Dr_st (St_gd [50, 51] rfl rfl rfl rfl ⟨⟨_, rfl⟩, ⟨_, rfl⟩, trivial⟩ (fun hg52 => Pu_index rfl Try.underlying22 Try.sizeOf37 rfl rfl (rfl) (mapget hkm))) rfl ?_
      refine Dr_st (St_gd [52] rfl rfl rfl rfl ⟨⟨_, rfl⟩, trivial⟩ (fun hg53 => Pu_field 1 rfl Try.underlying37 rfl rfl Try.sizeOf3 rfl)) rfl ?_
      refine Dr_st (St_gd [53] rfl rfl rfl rfl ⟨⟨_, rfl⟩, trivial⟩ (fun hg54 => Pu_load1 rfl Try.isAgg3 rfl rfl)) rfl ?_
      refine Dr_st (St_gd [49, 54] rfl rfl rfl rfl ⟨⟨_, rfl⟩, ⟨_, rfl⟩, trivial⟩ (fun hg55 => Pu_cmp rfl rfl rfl rfl)) rfl ?_
      refine Dr_p (Pu_or rfl rfl rfl rfl) ?_
      refine Dr_p Pu_mvl ?_
      refine Dr_st (St_gd [] rfl rfl rfl rfl trivial (fun hg58 => by exact Pu_move (.inl rfl) (by conv => lhs; whnf))) rfl ?_
      refine Dr_st (St_gd [] rfl rfl rfl rfl trivial (fun hg59 => by exact Pu_move (.inl rfl) (by conv => lhs; whnf))) rfl ?_
      refine Dr_st (St_gd [58, 59] rfl rfl rfl rfl ⟨⟨_, rfl⟩, ⟨_, rfl⟩, trivial⟩ (fun hg60 => Pu_index rfl Try.underlying22 Try.sizeOf37 rfl rfl (rfl) (mapget hkl))) rfl ?_
      refine Dr_st (St_gd [60] rfl rfl rfl rfl ⟨⟨_, rfl⟩, trivial⟩ (fun hg61 => Pu_field 2 rfl Try.underlying37 rfl rfl Try.sizeOf9 rfl)) rfl ?_
      refine Dr_st (St_gd [61] rfl rfl rfl rfl ⟨⟨_, rfl⟩, trivial⟩ (fun hg62 => Pu_load1 rfl Try.isAgg9 rfl rfl)) rfl ?_
      refine Dr_st (St_gd [] rfl rfl rfl rfl trivial (fun hg63 => by exact Pu_move (.inl rfl) (by conv => lhs; whnf))) rfl ?_
      refine Dr_st (St_gd [] rfl rfl rfl rfl trivial (fun hg64 => by exact Pu_move (.inl rfl) (by conv => lhs; whnf))) rfl ?_
      refine Dr_st (St_gd [63, 64] rfl rfl rfl rfl ⟨⟨_, rfl⟩, ⟨_, rfl⟩, trivial⟩ (fun hg65 => Pu_index rfl Try.underlying22 Try.sizeOf37 rfl rfl (rfl) (mapget hkm))) rfl ?_
      refine Dr_st (St_gd [65] rfl rfl rfl rfl ⟨⟨_, rfl⟩, trivial⟩ (fun hg66 => Pu_field 2 rfl Try.underlying37 rfl rfl Try.sizeOf9 rfl)) rfl ?_
      refine Dr_st (St_gd [66] rfl rfl rfl rfl ⟨⟨_, rfl⟩, trivial⟩ (fun hg67 => Pu_load1 rfl Try.isAgg9 rfl rfl)) rfl ?_
      refine Dr_st (St_gd [62, 67] rfl rfl rfl rfl ⟨⟨_, rfl⟩, ⟨_, rfl⟩, trivial⟩ (fun hg68 => Pu_str rfl rfl rfl rfl)) rfl ?_
      refine Dr_p (Pu_or rfl rfl rfl rfl) ?_
      refine Dr_p Pu_mvl ?_
      refine Dr_st (St_gd [] rfl rfl rfl rfl trivial (fun hg71 => by exact Pu_move (.inl rfl) (by conv => lhs; whnf))) rfl ?_
      refine Dr_st (St_gd [] rfl rfl rfl rfl trivial (fun hg72 => by exact Pu_move (.inl rfl) (by conv => lhs; whnf))) rfl ?_
      refine Dr_st (St_gd [71, 72] rfl rfl rfl rfl ⟨⟨_, rfl⟩, ⟨_, rfl⟩, trivial⟩ (fun hg73 => Pu_index rfl Try.underlying22 Try.sizeOf37 rfl rfl (rfl) (mapget hkl))) rfl ?_
      refine Dr_st (St_gd [73] rfl rfl rfl rfl ⟨⟨_, rfl⟩, trivial⟩ (fun hg74 => Pu_field 3 rfl Try.underlying37 rfl rfl Try.sizeOf34 rfl)) rfl ?_
      refine Dr_st (St_gd [74] rfl rfl rfl rfl ⟨⟨_, rfl⟩, trivial⟩ (fun hg75 => Pu_loadN rfl Try.isAgg34 Try.sizeOf34 rfl (Nat.le_of_ble_eq_true rfl))) rfl ?_
      refine Dr_st (St_gd [] rfl rfl rfl rfl trivial (fun hg76 => by exact Pu_move (.inl rfl) (by conv => lhs; whnf))) rfl ?_
      refine Dr_st (St_gd [] rfl rfl rfl rfl trivial (fun hg77 => by exact Pu_move (.inl rfl) (by conv => lhs; whnf))) rfl ?_
      refine Dr_st (St_gd [76, 77] rfl rfl rfl rfl ⟨⟨_, rfl⟩, ⟨_, rfl⟩, trivial⟩ (fun hg78 => Pu_index rfl Try.underlying22 Try.sizeOf37 rfl rfl (rfl) (mapget hkm))) rfl ?_
      refine Dr_st (St_gd [78] rfl rfl rfl rfl ⟨⟨_, rfl⟩, trivial⟩ (fun hg79 => Pu_field 3 rfl Try.underlying37 rfl rfl Try.sizeOf34 rfl)) rfl ?_
      refine Dr_st (St_gd [79] rfl rfl rfl rfl ⟨⟨_, rfl⟩, trivial⟩ (fun hg80 => Pu_loadN rfl Try.isAgg34 Try.sizeOf34 rfl (Nat.le_of_ble_eq_true rfl))) rfl ?_
      refine Dr_st (St_gd [75, 80] rfl rfl rfl rfl ⟨⟨_, rfl⟩, ⟨_, rfl⟩, trivial⟩ (fun hg81 => Pu_eqrow [.int .i64 _, .int .i64 _] [.int .i64 _, .int .i64 _] (fun w => nev34 _ _ _ _ _ _ w) rfl rfl rfl)) rfl ?_
      refine Dr_p (Pu_or rfl rfl rfl rfl) ?_
      refine Dr_nil (Al_nil ?_)
      refine Aw_cond rfl (fun h82 => ?_) (fun h82 => ?_)
      · skip
        have hne : l[k] ≠ m[k] := by intro e; simp [e] at h82
        refine Aw_seq (Aw_region ?_)
        refine Al_p Pu_mvr ?_
        refine Al_nil ?_
        refine Aw_ret ?_
        exact Sub.bool (by rw [L.same_ne hkl hkm hne]) -- ret 1
      · skip
        have heq : l[k] = m[k] := of_decide_eq_true (by rw [← ev_eqB]; simp at h82 ⊢; simp [h82])
        refine Aw_skip (Aw_region ?_)
        refine Al_p Pu_mvl ?_
        refine Al_p (Pu_add rfl rfl rfl (fun h1 h2 => by simp only [A.inI, A.maxI] at *; omega)) ?_
        refine Al_p Pu_mvr ?_
        refine Al_nil ?_
        exact ⟨k + 1, ⟨by omega, L.same_step he hkl hkm heq⟩, by omega, Le.ov ⟨Sub.num (by omega), trivial⟩ ⟨Sub.rfl, Sub.rfl, trivial⟩ trivial trivial⟩ -- loop 0 next.0
    · (try simp only [decide_eq_true_eq, decide_eq_false_iff_not, Bool.and_eq_true, Bool.or_eq_true, Bool.and_eq_false_iff, Bool.or_eq_false_iff, Bool.not_eq_true', Bool.not_eq_false', beq_iff_eq, Bool.not_eq_eq_eq_not, Bool.not_true, Bool.not_false, List.length_map, Bool.and_true, Bool.and_false, Bool.false_and, Bool.true_and, Bool.or_false, Bool.false_or] at h15)
      obtain rfl := L.same_end he (by omega) (by omega)
      refine Aw_exit (Aw_seq (Aw_region ?_))
      refine Al_p Pu_mvr ?_
      refine Al_nil ?_
      refine Aw_ret ?_
      exact Sub.bool (by simp) -- ret 2
end Go.Proofs.Ytlcahhlghjbnkaa
namespace Go.Proofs.Ytlcahhlghjbnkaa
open Go.RowKit A
namespace L
theorem ofM_get {l : List Dep} (h : seenF none l = true) {d : Dep} (hd : d ∈ l) : ofM l d.key = some (d.n, d.s) := foldM_in l none (fun _ => none) h d hd
theorem ofM_none {l : List Dep} {c : ByteArray} (h : ∀ d ∈ l, d.key ≠ c) : ofM l c = none := foldM_out l (fun _ => none) c h
theorem had_has {l : List Dep} (h : seenF none l = true) {d : Dep} (hd : V.stampB d.n d.s = true) : hadB (ofM l) d = hasD l d := by
  have hs := V.stampB_iff.1 hd
  unfold hadB hasD
  rw [Bool.eq_iff_iff, decide_eq_true_eq, List.any_eq_true]
  by_cases hk : ∃ x ∈ l, x.key = d.key
  · obtain ⟨x, hx, hxk⟩ := hk
    rw [← hxk, ofM_get h hx]
    simp only [Option.getD_some, Prod.mk.injEq, decide_eq_true_eq]
    constructor
    · rintro ⟨h1, h2⟩
      exact ⟨x, hx, by cases x; cases d; simp_all⟩
    · rintro ⟨y, hy, rfl⟩
      have e1 := ofM_get h hx
      have e2 := ofM_get h hy
      rw [hxk, e2] at e1
      simpa using e1.symm
  · rw [ofM_none fun x hx e => hk ⟨x, hx, e⟩]
    simp only [Option.getD_none, Prod.mk.injEq, decide_eq_true_eq]
    constructor
    · rintro ⟨h1, h2⟩; omega
    · rintro ⟨y, hy, rfl⟩; exact absurd ⟨y, hy, rfl⟩ hk
theorem has_key {l : List Dep} (h : seenF none l = true) (d : Dep) : hasB (ofM l) d = keyB l d.key := by
  unfold hasB keyB
  rw [Bool.eq_iff_iff, Bool.not_eq_true', decide_eq_false_iff_not, List.any_eq_true]
  by_cases hk : ∃ x ∈ l, x.key = d.key
  · obtain ⟨x, hx, hxk⟩ := hk
    have hs := V.stampB_iff.1 (seen_dep l none h x hx)
    rw [← hxk, ofM_get h hx]
    simp only [Option.getD_some, Prod.mk.injEq]
    exact ⟨fun _ => ⟨x, hx, by simp⟩, fun _ h => by omega⟩
  · rw [ofM_none fun x hx e => hk ⟨x, hx, e⟩]
    simp only [Option.getD_none, not_true_eq_false, false_iff, not_exists, not_and]
    intro x hx e
    rw [str_eqB] at e
    exact hk ⟨x, hx, of_decide_eq_true e⟩
theorem stamp_opt {e : Event} (h : check e = true) : stampOpt e.n e.s = rstampOpt e.n e.s := by
  unfold stampOpt rstampOpt noStamp
  by_cases hn : e.n = 0
  · have hs : e.s = 0 := by
      have h1 : headB e = true := by unfold check at h; rw [Bool.and_eq_true] at h; exact h.1
      have h2 := (head_parts h1).1
      simp only [kindB, Bool.or_eq_true, Bool.and_eq_true, beq_iff_eq] at h2
      rcases h2 with ⟨_, h⟩ | ⟨_, ⟨_, h⟩ | h⟩
      · have := V.stampB_iff.1 h; omega
      · exact h
      · have := V.stampB_iff.1 h; omega
    simp [hn, hs]
  · simp [hn]
theorem part_rpart {e : Event} {ahead : List Dep} (h : check e = true) (ha : seenF none ahead = true) : part e ahead = rpart e ahead := by
  have h1 : more e ahead = rmore e ahead := by
    unfold more rmore R.strike
    exact List.filter_congr fun d hd => by rw [had_has ha (seen_dep _ _ (seen_of h) d hd)]
  have h2 : less e ahead = rless e ahead := by
    unfold less rless R.strike
    exact List.filter_congr fun d _ => by rw [has_key (seen_of h)]
  unfold part rpart headBytes rhead
  rw [h1, h2, stamp_opt h]
theorem lastS_M (l : List Event) (c : Int) : ∀ i, i ≤ l.length → lastM (fun _ => []) (l.take i) c = lastS l c i
  | 0, _ => rfl
  | i + 1, h => by
    have hi : i < l.length := by omega
    rw [take_snoc hi, lastM_app, lastS, dif_pos hi, ← lastS_M l c i (by omega)]
    simp only [lastM]
    by_cases e : c = l[i].client
    · rw [if_pos e, if_pos e.symm]
    · rw [if_neg e, if_neg (Ne.symm e)]
theorem lastS_of (l : List Event) (c : Int) : ∀ i, i ≤ l.length → lastS l c i = [] ∨ ∃ e ∈ l.take i, lastS l c i = e.seen
  | 0, _ => .inl rfl
  | i + 1, h => by
    have hi : i < l.length := by omega
    rw [lastS, dif_pos hi]
    split
    · exact .inr ⟨l[i], by rw [take_snoc hi]; exact List.mem_append.2 (.inr (List.mem_singleton.2 rfl)), rfl⟩
    · rcases lastS_of l c i (by omega) with h | ⟨e, he, h⟩
      · exact .inl h
      · exact .inr ⟨e, by rw [take_snoc hi]; exact List.mem_append.2 (.inl he), h⟩
theorem partsF_step {l : List Event} {k : Nat} (h : k < l.length) : partsF (fun _ => []) (l.take (k + 1)) = partsF (fun _ => []) (l.take k) ++ [V.ba (part l[k] (lastS l l[k].client k))] := by
  rw [take_snoc h, partsF_app, ← lastS_M l _ k (by omega)]; rfl
end L
set_option maxRecDepth 100000 in
theorem rparts_a (l : List Event) (hl : l.length ≤ 1000) (hf : L.fit l) : ACall Try.prog 13 [.sl 6 (l.map Event.row)] (.sl 1 ((L.parts l).map fun s => [tv s])) := by
  refine ACall_enter (fun _ _ => by kernel_rfl) Try.func13 rfl Try.ntmps13 Try.results13 (Nat.le_of_ble_eq_true rfl) (fun hok M0 w0 hnl => ?_)
  refine Aw_seq (Aw_region ?_)
  refine Al_p Pu_mvr ?_
  refine Al_nil (Aw_seq (Aw_region ?_))
  refine Al_p Pu_mvr ?_
  refine Al_nil (Aw_seq (Aw_seq (Aw_region ?_)))
  refine Al_p Pu_mvr ?_
  refine Al_nil (Aw_block ?_)
  refine Aw_own (j := 3) (k := 3) (T := 9) (n := 1) rfl (fun g0 => ?_)
  refine Aw_loopk (ι := Nat × Nat) [0] [] (fun (k, g) => [(4, .d (iv k)), (3, .ow 3 g)]) (fun (k, g) => [(3, g, .arr 9 1 ((L.partsF (fun _ => []) (l.take k)).map fun s => [tv s]))]) (fun (k, g) => k ≤ l.length ∧ ∀ e ∈ l.take k, L.check e = true) (fun (k, g) => l.length - k) ((0, g0)) (⟨Nat.zero_le _, by simp⟩) ⟨Sub.rfl, Sub.rfl, trivial⟩ ⟨rfl, trivial⟩ ?_
  rintro ⟨k, g⟩ ⟨hk0, hall⟩
  refine Aw_seq (Aw_seq (Aw_region ?_))
  refine Al_p Pu_mvl ?_
  refine Al_p Pu_mvl ?_
  refine Al_p (Pu_len rfl Try.underlying22 rfl (by first | exact List.length_map .. | exact rfl)) ?_
  refine Al_p (Pu_cmp rfl rfl rfl rfl) ?_
  refine Al_nil ?_
  refine Aw_cond rfl (fun h9 => ?_) (fun h9 => ?_)
  · (try simp only [decide_eq_true_eq, decide_eq_false_iff_not, Bool.and_eq_true, Bool.or_eq_true, Bool.and_eq_false_iff, Bool.or_eq_false_iff, Bool.not_eq_true', Bool.not_eq_false', beq_iff_eq, Bool.not_eq_eq_eq_not, Bool.not_true, Bool.not_false, List.length_map, Bool.and_true, Bool.and_false, Bool.false_and, Bool.true_and, Bool.or_false, Bool.false_or] at h9)
    have hkl : k < l.length := by omega
    refine Aw_skip (Aw_seq (Aw_block (Aw_seq (Aw_region ?_))))
    refine Al_p Pu_mvl ?_
    refine Al_p Pu_mvl ?_
    refine Al_p (Pu_index rfl Try.underlying22 Try.sizeOf37 rfl rfl (rfl) (mapget hkl)) ?_
    refine Al_p (Pu_loadN rfl Try.isAgg37 Try.sizeOf37 rfl (Nat.le_of_ble_eq_true rfl)) ?_
    refine Al_p (Pu_call (rlcheck_a l[k]) rfl ⟨Sub.rfl, trivial⟩) ?_
    refine Al_p Pu_mvr ?_
    refine Al_nil (Aw_seq (Aw_seq (Aw_region ?_)))
    refine Al_p Pu_mvl ?_
    refine Al_p (Pu_not rfl rfl) ?_
    refine Al_nil ?_
    refine Aw_cond rfl (fun h18 => ?_) (fun h18 => ?_)
    · (try simp only [decide_eq_true_eq, decide_eq_false_iff_not, Bool.and_eq_true, Bool.or_eq_true, Bool.and_eq_false_iff, Bool.or_eq_false_iff, Bool.not_eq_true', Bool.not_eq_false', beq_iff_eq, Bool.not_eq_eq_eq_not, Bool.not_true, Bool.not_false, List.length_map, Bool.and_true, Bool.and_false, Bool.false_and, Bool.true_and, Bool.or_false, Bool.false_or] at h18)
      have hno : L.parts l = [] := by
        unfold L.parts
        rw [if_neg]
        rw [List.all_eq_true]
        intro h
        rw [h _ (List.getElem_mem hkl)] at h18; cases h18
      refine Aw_seq (Aw_region ?_)
      refine Al_p Pu_mvr ?_
      refine Al_nil ?_
      refine Aw_ret ?_
      rw [hno]; exact Sub.nil -- ret 0
    · (try simp only [decide_eq_true_eq, decide_eq_false_iff_not, Bool.and_eq_true, Bool.or_eq_true, Bool.and_eq_false_iff, Bool.or_eq_false_iff, Bool.not_eq_true', Bool.not_eq_false', beq_iff_eq, Bool.not_eq_eq_eq_not, Bool.not_true, Bool.not_false, List.length_map, Bool.and_true, Bool.and_false, Bool.false_and, Bool.true_and, Bool.or_false, Bool.false_or] at h18)
      have hc := h18
      have hp := L.check_parts hc
      obtain ⟨⟨kk, cc, e1, e2, e3, e4⟩, e5⟩ := hp
      have hfk := hf _ (List.getElem_mem hkl)
      have hla : L.seenF none (L.lastS l l[k].client k) = true ∧ (L.lastS l l[k].client k).length ≤ 64 ∧ ∀ d ∈ L.lastS l l[k].client k, d.key.size ≤ 1000 := by
        rcases L.lastS_of l l[k].client k (by omega) with h | ⟨e, he, h⟩
        · rw [h]; exact ⟨rfl, by simp, by simp⟩
        · rw [h]
          have hce := hall e he
          exact ⟨L.seen_of hce, (L.check_parts hce).2, (hf e (List.mem_of_mem_take he)).2⟩
      have hpr := L.part_rpart hc hla.1
      have hps := L.partsF_len (l.take k) (fun _ => [])
      rw [List.length_take] at hps
      refine Aw_skip ?_
      refine Aw_draw 10 (by kernel_rfl) (by kernel_rfl) ?_
      refine Dr_p Pu_mvl ?_
      refine Dr_p Pu_mvl ?_
      refine Dr_p Pu_mvl ?_
      refine Dr_p (Pu_index rfl Try.underlying22 Try.sizeOf37 rfl rfl (rfl) (mapget hkl)) ?_
      refine Dr_p (Pu_loadN rfl Try.isAgg37 Try.sizeOf37 rfl (Nat.le_of_ble_eq_true rfl)) ?_
      refine Dr_p Pu_mvl ?_
      refine Dr_p Pu_mvl ?_
      refine Dr_p (Pu_call (rlast_a l k hkl) rfl ⟨Sub.rfl, Sub.rfl, trivial⟩) ?_
      refine Dr_p (Pu_call (rpart_a l[k] (L.lastS l l[k].client k) (by omega) (by omega) hfk.1 e5 hfk.2 hla.2.1 hla.2.2) rfl ⟨Sub.rfl, Sub.rfl, trivial⟩) ?_
      refine Dr_p (Pu_slice1 rfl Try.underlying39 Try.sizeOf9 Try.zeroValue9 rfl (by decide) (by decide) (by kernel_rfl) rfl rfl rfl) ?_
      refine Dr_nil ?_
      refine Al_append rfl rfl rfl (by decide) (by kernel_rfl) elem39 (by decide) Try.sizeOf9 rfl rfl rfl (by simp; omega) (by decide) (fun g29 => ?_)
      refine Al_p Pu_mvr ?_
      refine Al_nil (Aw_region ?_)
      refine Al_p Pu_mvl ?_
      refine Al_p (Pu_add rfl rfl rfl (fun h1 h2 => by simp only [A.inI, A.maxI] at *; omega)) ?_
      refine Al_p Pu_mvr ?_
      refine Al_nil ?_
      exact ⟨(k + 1, g29), ⟨by omega, fun e he => by
        rw [L.take_snoc hkl] at he
        rcases List.mem_append.1 he with he | he
        · exact hall e he
        · simp at he; subst he; exact hc⟩, by simp only []; omega, Le.ov ⟨Sub.num (by omega), Sub.rfl, trivial⟩ ⟨Sub.rfl, trivial⟩ ⟨obeq (by rw [L.partsF_step hkl, hpr, List.map_append]; rfl), trivial⟩ trivial⟩ -- loop 0 next.0
  · (try simp only [decide_eq_true_eq, decide_eq_false_iff_not, Bool.and_eq_true, Bool.or_eq_true, Bool.and_eq_false_iff, Bool.or_eq_false_iff, Bool.not_eq_true', Bool.not_eq_false', beq_iff_eq, Bool.not_eq_eq_eq_not, Bool.not_true, Bool.not_false, List.length_map, Bool.and_true, Bool.and_false, Bool.false_and, Bool.true_and, Bool.or_false, Bool.false_or] at h9)
    have he : l.take k = l := List.take_of_length_le (by omega)
    have hp : L.parts l = L.partsF (fun _ => []) (l.take k) := by
      unfold L.parts
      rw [if_pos, he]
      rw [List.all_eq_true]
      rw [he] at hall
      exact hall
    refine Aw_exit (Aw_seq (Aw_region ?_))
    refine Al_p Pu_mvl ?_
    refine Al_p Pu_mvr ?_
    refine Al_nil ?_
    refine Aw_frz hnl (k := 3) [2] rfl ⟨rfl, trivial⟩ ?_
    refine Aw_ret ?_
    exact Sub.d (by rw [hp]) -- ret 1
set_option maxRecDepth 100000 in
theorem rbytes_a (l : List Event) (hl : l.length ≤ 1000) (hf : L.fit l) : ACall Try.prog 6 [.sl 6 (l.map Event.row)] (tv (V.ba (L.bytes l))) := by
  refine ACall_enter (fun _ _ => by kernel_rfl) Try.func6 rfl Try.ntmps6 Try.results6 (Nat.le_of_ble_eq_true rfl) (fun hok M0 w0 hnl => ?_)
  have hps := L.parts_size hf
  have hpl : l.all L.check = true → (L.parts l).length = l.length := fun h => by
    unfold L.parts; rw [if_pos h, L.partsF_len]
  have hpn : ¬ l.all L.check = true → L.parts l = [] ∧ 0 < l.length := fun h => by
    refine ⟨by unfold L.parts; rw [if_neg h], ?_⟩
    rcases l with _ | ⟨e, l⟩
    · exact absurd rfl h
    · simp
  have hnl := V.num_len64 (n := l.length) (by omega)
  refine Aw_seq (Aw_region ?_)
  refine Al_p Pu_mvr ?_
  refine Al_nil (Aw_seq (Aw_region ?_))
  refine Al_p Pu_mvl ?_
  refine Al_p (Pu_call (rparts_a l hl hf) rfl ⟨Sub.rfl, trivial⟩) ?_
  refine Al_p Pu_mvr ?_
  refine Al_nil (Aw_seq (Aw_seq (Aw_region ?_)))
  refine Al_p Pu_mvl ?_
  refine Al_p (Pu_len rfl Try.underlying39 rfl (by first | exact List.length_map .. | exact rfl)) ?_
  refine Al_p Pu_mvl ?_
  refine Al_p (Pu_len rfl Try.underlying22 rfl (by first | exact List.length_map .. | exact rfl)) ?_
  refine Al_p (Pu_cmp rfl rfl rfl rfl) ?_
  refine Al_nil ?_
  refine Aw_cond rfl (fun h12 => ?_) (fun h12 => ?_)
  · (try simp only [decide_eq_true_eq, decide_eq_false_iff_not, Bool.and_eq_true, Bool.or_eq_true, Bool.and_eq_false_iff, Bool.or_eq_false_iff, Bool.not_eq_true', Bool.not_eq_false', beq_iff_eq, Bool.not_eq_eq_eq_not, Bool.not_true, Bool.not_false, List.length_map, Bool.and_true, Bool.and_false, Bool.false_and, Bool.true_and, Bool.or_false, Bool.false_or] at h12)
    have hno : ¬ l.all L.check = true := fun h => by have := hpl h; omega
    refine Aw_seq (Aw_region ?_)
    refine Al_p Pu_mvr ?_
    refine Al_nil ?_
    refine Aw_ret ?_
    exact Sub.str (by unfold L.bytes; rw [if_neg hno]) -- ret 0
  · (try simp only [decide_eq_true_eq, decide_eq_false_iff_not, Bool.and_eq_true, Bool.or_eq_true, Bool.and_eq_false_iff, Bool.or_eq_false_iff, Bool.not_eq_true', Bool.not_eq_false', beq_iff_eq, Bool.not_eq_eq_eq_not, Bool.not_true, Bool.not_false, List.length_map, Bool.and_true, Bool.and_false, Bool.false_and, Bool.true_and, Bool.or_false, Bool.false_or] at h12)
    have hall : l.all L.check = true := by
      by_cases h : l.all L.check = true
      · exact h
      · obtain ⟨h1, h2⟩ := hpn h
        rw [h1] at h12; simp at h12; omega
    have hlen := hpl hall
    refine Aw_skip (Aw_seq (Aw_region ?_))
    refine Al_p Pu_mvl ?_
    refine Al_p (Pu_len rfl Try.underlying22 rfl (by first | exact List.length_map .. | exact rfl)) ?_
    refine Al_p (Pu_conv rfl Try.underlying3 Try.underlying42 rfl (fun hv => u64_nat (by omega) (by simp only [vok, A.inI] at hv; omega))) ?_
    refine Al_p (Pu_call (rnumber_a l.length (by omega)) rfl ⟨Sub.rfl, trivial⟩) ?_
    refine Al_p Pu_mvr ?_
    refine Al_nil (Aw_seq (Aw_seq (Aw_region ?_)))
    refine Al_p Pu_mvr ?_
    refine Al_nil (Aw_block ?_)
    generalize hPS : L.parts l = ps at *
    refine Aw_loopk (ι := Nat) [3] [] (fun j => [(5, .d (iv j)), (4, .d (tv (V.ba (V.num l.length ++ L.cat (ps.take j)))))]) (fun j => []) (fun j => j ≤ ps.length) (fun j => ps.length - j) (0) (Nat.zero_le _) ⟨Sub.rfl, Sub.str (by simp [L.cat]), trivial⟩ trivial ?_
    rintro j hk0
    refine Aw_seq (Aw_seq (Aw_region ?_))
    refine Al_p Pu_mvl ?_
    refine Al_p Pu_mvl ?_
    refine Al_p (Pu_len rfl Try.underlying39 rfl (by first | exact List.length_map .. | exact rfl)) ?_
    refine Al_p (Pu_cmp rfl rfl rfl rfl) ?_
    refine Al_nil ?_
    refine Aw_cond rfl (fun h20 => ?_) (fun h20 => ?_)
    · (try simp only [decide_eq_true_eq, decide_eq_false_iff_not, Bool.and_eq_true, Bool.or_eq_true, Bool.and_eq_false_iff, Bool.or_eq_false_iff, Bool.not_eq_true', Bool.not_eq_false', beq_iff_eq, Bool.not_eq_eq_eq_not, Bool.not_true, Bool.not_false, List.length_map, Bool.and_true, Bool.and_false, Bool.false_and, Bool.true_and, Bool.or_false, Bool.false_or] at h20)
      have hj : j < ps.length := by omega
      have hcj := L.cat_len (ps.take j) (fun s hs => hps s (List.mem_of_mem_take hs))
      rw [List.length_take] at hcj
      have hsz := hps ps[j] (List.getElem_mem hj)
      refine Aw_skip (Aw_seq (Aw_block (Aw_region ?_)))
      refine Al_p Pu_mvl ?_
      refine Al_p Pu_mvl ?_
      refine Al_p Pu_mvl ?_
      refine Al_p (Pu_index rfl Try.underlying39 Try.sizeOf9 rfl rfl (rfl) (mapget hj)) ?_
      refine Al_p (Pu_load1 rfl Try.isAgg9 rfl rfl) ?_
      refine Al_p (Pu_cat rfl rfl rfl (by simp only [A.ba_sz, List.length_append, A.maxI]; omega)) ?_
      refine Al_p Pu_mvr ?_
      refine Al_nil (Aw_region ?_)
      refine Al_p Pu_mvl ?_
      refine Al_p (Pu_add rfl rfl rfl (fun h1 h2 => by simp only [A.inI, A.maxI] at *; omega)) ?_
      refine Al_p Pu_mvr ?_
      refine Al_nil ?_
      exact ⟨j + 1, by omega, by omega, Le.ov ⟨Sub.num (by omega), Sub.str (by
        rw [List.take_succ_eq_append_getElem hj]
        simp only [L.cat, List.flatMap_append, List.flatMap_cons, List.flatMap_nil, List.append_nil]
        simp only [← V.ba_append, V.ba_data, ByteArray.append_assoc]), trivial⟩ ⟨Sub.rfl, trivial⟩ trivial trivial⟩ -- loop 0 next.0
    · (try simp only [decide_eq_true_eq, decide_eq_false_iff_not, Bool.and_eq_true, Bool.or_eq_true, Bool.and_eq_false_iff, Bool.or_eq_false_iff, Bool.not_eq_true', Bool.not_eq_false', beq_iff_eq, Bool.not_eq_eq_eq_not, Bool.not_true, Bool.not_false, List.length_map, Bool.and_true, Bool.and_false, Bool.false_and, Bool.true_and, Bool.or_false, Bool.false_or] at h20)
      have hjj : ps.take j = ps := List.take_of_length_le (by omega)
      refine Aw_exit (Aw_seq (Aw_region ?_))
      refine Al_p Pu_mvl ?_
      refine Al_p Pu_mvr ?_
      refine Al_nil ?_
      refine Aw_ret ?_
      exact Sub.str (by unfold L.bytes; rw [if_pos hall, hPS, hjj]) -- ret 1
end Go.Proofs.Ytlcahhlghjbnkaa
end

section
namespace Go.Proofs.Ytlcahhlghjbnkaa
open Go.RowKit A
set_option maxRecDepth 100000 in
theorem few_a (l : List Event) : ACall Try.prog 15 [.sl 6 (l.map Event.row)] (.sl 6 ((L.few l).map Event.row)) := by
  refine ACall_enter (fun _ _ => by kernel_rfl) Try.func15 rfl Try.ntmps15 Try.results15 (Nat.le_of_ble_eq_true rfl) (fun hok M0 w0 hnl => ?_)
  have hlen := (hok _ (List.mem_cons_self ..)).len
  rw [List.length_map] at hlen
  have hrows := (hok _ (List.mem_cons_self ..)).rows
  refine Aw_seq (Aw_region ?_)
  refine Al_p Pu_mvr ?_
  refine Al_nil (Aw_seq (Aw_region ?_))
  refine Al_p Pu_mvr ?_
  refine Al_nil (Aw_seq (Aw_seq (Aw_region ?_)))
  refine Al_p Pu_mvr ?_
  refine Al_nil (Aw_block ?_)
  refine Aw_own (j := 3) (k := 3) (T := 37) (n := 6) rfl (fun g0 => ?_)
  refine Aw_loopk (ι := Nat × Nat) [0] [] (fun (k, g) => [(4, .d (iv k)), (3, .ow 3 g)]) (fun (k, g) => [(3, g, .arr 37 6 (((l.take k).map L.cutE).map Event.row))]) (fun (k, g) => k ≤ l.length ∧ k ≤ 10) (fun (k, g) => l.length - k) ((0, g0)) (⟨Nat.zero_le _, by omega⟩) ⟨Sub.rfl, Sub.rfl, trivial⟩ ⟨rfl, trivial⟩ ?_
  rintro ⟨k, g⟩ ⟨hk0, hk10⟩
  refine Aw_seq (Aw_seq (Aw_region ?_))
  refine Al_p Pu_mvl ?_
  refine Al_p Pu_mvl ?_
  refine Al_p (Pu_len rfl Try.underlying22 rfl (by first | exact List.length_map .. | exact rfl)) ?_
  refine Al_p (Pu_cmp rfl rfl rfl rfl) ?_
  refine Al_p Pu_mvl ?_
  refine Al_st (St_gd [] rfl rfl rfl rfl trivial (fun hg13 => by exact Pu_move (.inl rfl) (by conv => lhs; whnf))) rfl (by decide) (by kernel_rfl) (by intro j b oj dj h1 h2 h3; cases h1; cases h2; cases h3; decide) ?_
  refine Al_st (St_gd [13] rfl rfl rfl rfl ⟨⟨_, rfl⟩, trivial⟩ (fun hg14 => Pu_cmp rfl rfl rfl rfl)) rfl (by decide) (by kernel_rfl) (by intro j b oj dj h1 h2 h3; cases h1; cases h2; cases h3; decide) ?_
  refine Al_p (Pu_and rfl rfl rfl rfl) ?_
  refine Al_nil ?_
  refine Aw_cond rfl (fun h15 => ?_) (fun h15 => ?_)
  · (try simp only [decide_eq_true_eq, decide_eq_false_iff_not, Bool.and_eq_true, Bool.or_eq_true, Bool.and_eq_false_iff, Bool.or_eq_false_iff, Bool.not_eq_true', Bool.not_eq_false', beq_iff_eq, Bool.not_eq_eq_eq_not, Bool.not_true, Bool.not_false, List.length_map, Bool.and_true, Bool.and_false, Bool.false_and, Bool.true_and, Bool.or_false, Bool.false_or] at h15)
    obtain ⟨h1, h2⟩ := h15
    have hkl : k < l.length := by omega
    have hsl := (hrows _ (List.mem_map.2 ⟨l[k], List.getElem_mem hkl, rfl⟩) (.sl 3 (l[k].seen.map Dep.row)) (by simp [Event.row])).len
    rw [List.length_map] at hsl
    refine Aw_skip (Aw_seq (Aw_block (Aw_seq (Aw_region ?_))))
    refine Al_p Pu_mvl ?_
    refine Al_p Pu_mvl ?_
    refine Al_p (Pu_index rfl Try.underlying22 Try.sizeOf37 rfl rfl (rfl) (mapget (by omega))) ?_
    refine Al_p (Pu_loadN rfl Try.isAgg37 Try.sizeOf37 rfl (Nat.le_of_ble_eq_true rfl)) ?_
    refine Al_alloc rfl rfl rfl (by decide) Try.zeroValue37 rfl (by kernel_rfl) (fun g5 => ?_)
    refine Al_storeN rfl rfl rfl (by kernel_rfl) Try.isAgg37 Try.sizeOf37 rfl rfl rfl rfl (Nat.le_of_ble_eq_true rfl) ?_
    refine Al_nil (Aw_seq (Aw_region ?_))
    refine Al_p (Pu_fieldb 2 rfl Try.underlying37 rfl rfl Try.sizeOf9 rfl) ?_
    refine Al_p (Pu_loadb rfl Try.isAgg9 rfl rfl rfl) ?_
    refine Al_p (Pu_call (lshort_a _) rfl ⟨Sub.rfl, trivial⟩) ?_
    refine Al_p (Pu_fieldb 2 rfl Try.underlying37 rfl rfl Try.sizeOf9 rfl) ?_
    refine Al_store1 rfl rfl rfl (by kernel_rfl) Try.isAgg9 Try.sizeOf9 rfl rfl (Nat.le_of_ble_eq_true rfl) (by conv => lhs; whnf) rfl ?_
    refine Al_nil (Aw_seq (Aw_region ?_))
    refine Al_p Pu_mvr ?_
    refine Al_nil (Aw_seq (Aw_seq (Aw_region ?_)))
    refine Al_p Pu_mvr ?_
    refine Al_nil (Aw_block ?_)
    refine Aw_loopk (ι := Nat) [0, 3, 4, 5] [3, 5] (fun j => [(7, .d (iv j)), (6, .d (.sl 3 ((L.addsD (l[k].seen.take j)).map Dep.row)))]) (fun j => []) (fun j => j ≤ l[k].seen.length ∧ j ≤ 5) (fun j => l[k].seen.length - j) (0) (⟨Nat.zero_le _, by simp⟩) ⟨Sub.rfl, Sub.nil, trivial⟩ trivial ?_
    rintro j ⟨hk1, hj5⟩
    refine Aw_seq (Aw_seq (Aw_region ?_))
    refine Al_p Pu_mvl ?_
    refine Al_p (Pu_fieldb 5 rfl Try.underlying37 rfl rfl Try.sizeOf35 rfl) ?_
    refine Al_p (Pu_loadb rfl Try.isAgg35 rfl rfl rfl) ?_
    refine Al_p (Pu_len rfl Try.underlying35 rfl (by first | exact List.length_map .. | exact rfl)) ?_
    refine Al_p (Pu_cmp rfl rfl rfl rfl) ?_
    refine Al_p Pu_mvl ?_
    refine Al_st (St_gd [] rfl rfl rfl rfl trivial (fun hg32 => by exact Pu_move (.inl rfl) (by conv => lhs; whnf))) rfl (by decide) (by kernel_rfl) (by intro j b oj dj h1 h2 h3; cases h1; cases h2; cases h3; decide) ?_
    refine Al_st (St_gd [32] rfl rfl rfl rfl ⟨⟨_, rfl⟩, trivial⟩ (fun hg33 => Pu_cmp rfl rfl rfl rfl)) rfl (by decide) (by kernel_rfl) (by intro j b oj dj h1 h2 h3; cases h1; cases h2; cases h3; decide) ?_
    refine Al_p (Pu_and rfl rfl rfl rfl) ?_
    refine Al_nil ?_
    refine Aw_cond rfl (fun h34 => ?_) (fun h34 => ?_)
    · (try simp only [decide_eq_true_eq, decide_eq_false_iff_not, Bool.and_eq_true, Bool.or_eq_true, Bool.and_eq_false_iff, Bool.or_eq_false_iff, Bool.not_eq_true', Bool.not_eq_false', beq_iff_eq, Bool.not_eq_eq_eq_not, Bool.not_true, Bool.not_false, List.length_map, Bool.and_true, Bool.and_false, Bool.false_and, Bool.true_and, Bool.or_false, Bool.false_or] at h34)
      obtain ⟨h3, h4⟩ := h34
      have hjl : j < l[k].seen.length := by omega
      have hln := L.addsD_len (l[k].seen.take j)
      rw [List.length_take] at hln
      refine Aw_skip (Aw_seq (Aw_block ?_))
      refine Aw_draw 16 (by kernel_rfl) (by kernel_rfl) ?_
      refine Dr_p Pu_mvl ?_
      refine Dr_p (Pu_fieldb 5 rfl Try.underlying37 rfl rfl Try.sizeOf35 rfl) ?_
      refine Dr_p (Pu_loadb rfl Try.isAgg35 rfl rfl rfl) ?_
      refine Dr_p Pu_mvl ?_
      refine Dr_p (Pu_index rfl Try.underlying35 Try.sizeOf61 rfl rfl (rfl) (mapget (by omega))) ?_
      refine Dr_p (Pu_field 0 rfl Try.underlying61 rfl rfl Try.sizeOf9 rfl) ?_
      refine Dr_p (Pu_load1 rfl Try.isAgg9 rfl rfl) ?_
      refine Dr_p (Pu_call (lshort_a _) rfl ⟨Sub.rfl, trivial⟩) ?_
      refine Dr_p (Pu_fieldb 5 rfl Try.underlying37 rfl rfl Try.sizeOf35 rfl) ?_
      refine Dr_p (Pu_loadb rfl Try.isAgg35 rfl rfl rfl) ?_
      refine Dr_p Pu_mvl ?_
      refine Dr_p (Pu_index rfl Try.underlying35 Try.sizeOf61 rfl rfl (rfl) (mapget (by omega))) ?_
      refine Dr_p (Pu_field 1 rfl Try.underlying61 rfl rfl Try.sizeOf34 rfl) ?_
      refine Dr_p (Pu_loadN rfl Try.isAgg34 Try.sizeOf34 rfl (Nat.le_of_ble_eq_true rfl)) ?_
      refine Dr_p (Pu_build (aa := [(0, _), (1, _)]) rfl Try.underlying61 Try.zeroValue61 (places61 Try.underlying61) (by kernel_rfl) ⟨rfl, rfl, rfl, rfl, rfl, rfl, trivial⟩ rfl) ?_
      refine Dr_p (Pu_call (dadd_a _ (L.cutD l[k].seen[j]) (by omega)) rfl ⟨Sub.rfl, Sub.rfl, trivial⟩) ?_
      refine Dr_nil ?_
      refine Al_p Pu_mvr ?_
      refine Al_nil (Aw_region ?_)
      refine Al_p Pu_mvl ?_
      refine Al_p (Pu_add rfl rfl rfl (fun h1 h2 => by simp only [A.inI, A.maxI] at *; omega)) ?_
      refine Al_p Pu_mvr ?_
      refine Al_nil ?_
      exact ⟨j + 1, ⟨by omega, by omega⟩, by omega, Le.ov ⟨Sub.num (by omega), Sub.d (by rw [List.take_succ_eq_append_getElem hjl, L.addsD_snoc]), trivial⟩ ⟨Sub.rfl, Sub.rfl, Sub.rfl, Sub.rfl, trivial⟩ trivial ⟨rfl, rfl, trivial⟩⟩ -- loop 1 next.0
    · (try simp only [decide_eq_true_eq, decide_eq_false_iff_not, Bool.and_eq_true, Bool.or_eq_true, Bool.and_eq_false_iff, Bool.or_eq_false_iff, Bool.not_eq_true', Bool.not_eq_false', beq_iff_eq, Bool.not_eq_eq_eq_not, Bool.not_true, Bool.not_false, List.length_map, Bool.and_true, Bool.and_false, Bool.false_and, Bool.true_and, Bool.or_false, Bool.false_or] at h34)
      have hs5 : L.addsD (l[k].seen.take j) = L.seen5 l[k].seen := by
        unfold L.seen5
        by_cases hj : j = 5
        · subst hj; rfl
        · rw [List.take_of_length_le (by omega), List.take_of_length_le (by omega)]
      rw [hs5]
      refine Aw_exit (Aw_seq (Aw_region ?_))
      refine Al_p Pu_mvl ?_
      refine Al_p (Pu_fieldb 5 rfl Try.underlying37 rfl rfl Try.sizeOf35 rfl) ?_
      refine Al_store1 rfl rfl rfl (by kernel_rfl) Try.isAgg35 Try.sizeOf35 rfl rfl (Nat.le_of_ble_eq_true rfl) (by conv => lhs; whnf) rfl ?_
      refine Al_nil (Aw_region ?_)
      refine Al_p Pu_mvl ?_
      refine Al_p (Pu_loadbN (r := [_, _, _, _, _, _]) rfl Try.isAgg37 Try.sizeOf37 rfl rfl rfl rfl) ?_
      refine Al_p (Pu_slice1 rfl Try.underlying22 Try.sizeOf37 Try.zeroValue37 rfl (by decide) (by decide) (by kernel_rfl) rfl rfl rfl) ?_
      refine Al_append rfl rfl rfl (by decide) (by kernel_rfl) elem22 (by decide) Try.sizeOf37 rfl rfl rfl (by simp; omega) (by decide) (fun g58 => ?_)
      refine Al_p Pu_mvr ?_
      refine Al_nil (Aw_region ?_)
      refine Al_p Pu_mvl ?_
      refine Al_p (Pu_add rfl rfl rfl (fun h1 h2 => by simp only [A.inI, A.maxI] at *; omega)) ?_
      refine Al_p Pu_mvr ?_
      refine Al_nil ?_
      exact ⟨(k + 1, g58), ⟨by omega, by omega⟩, by simp only []; omega, Le.ov ⟨Sub.num (by omega), Sub.rfl, trivial⟩ ⟨Sub.rfl, trivial⟩ ⟨obeq (by rw [List.take_succ_eq_append_getElem hkl, List.map_append, List.map_append]; rfl), trivial⟩ trivial⟩ -- loop 0 next.0
  · (try simp only [decide_eq_true_eq, decide_eq_false_iff_not, Bool.and_eq_true, Bool.or_eq_true, Bool.and_eq_false_iff, Bool.or_eq_false_iff, Bool.not_eq_true', Bool.not_eq_false', beq_iff_eq, Bool.not_eq_eq_eq_not, Bool.not_true, Bool.not_false, List.length_map, Bool.and_true, Bool.and_false, Bool.false_and, Bool.true_and, Bool.or_false, Bool.false_or] at h15)
    have he : (l.take k).map L.cutE = L.few l := by
      unfold L.few
      by_cases hj : k = 10
      · subst hj; rfl
      · rw [List.take_of_length_le (by omega), List.take_of_length_le (by omega)]
    refine Aw_exit (Aw_seq (Aw_region ?_))
    refine Al_p Pu_mvl ?_
    refine Al_p Pu_mvr ?_
    refine Al_nil ?_
    refine Aw_frz hnl (k := 3) [2] rfl ⟨rfl, trivial⟩ ?_
    refine Aw_ret ?_
    exact Sub.d (by rw [he]) -- ret 0
set_option maxRecDepth 100000 in
theorem good_a (l : List Event) : ACall Try.prog 7 [.sl 6 (l.map Event.row)] (.sl 6 ((L.good l).map Event.row)) := by
  refine ACall_enter (fun _ _ => by kernel_rfl) Try.func7 rfl Try.ntmps7 Try.results7 (Nat.le_of_ble_eq_true rfl) (fun hok M0 w0 hnl => ?_)
  have hgd : L.good l = (L.few l).filter L.check := rfl
  have hml := L.few_len l
  refine Aw_seq (Aw_region ?_)
  refine Al_p Pu_mvr ?_
  refine Al_nil (Aw_seq (Aw_region ?_))
  refine Al_p Pu_mvr ?_
  refine Al_nil (Aw_seq (Aw_region ?_))
  refine Al_p Pu_mvl ?_
  refine Al_p (Pu_call (few_a l) rfl ⟨Sub.rfl, trivial⟩) ?_
  refine Al_p Pu_mvr ?_
  refine Al_nil (Aw_seq (Aw_seq (Aw_region ?_)))
  refine Al_p Pu_mvr ?_
  refine Al_nil (Aw_block ?_)
  generalize L.few l = m at *
  refine Aw_own (j := 3) (k := 3) (T := 37) (n := 6) rfl (fun g0 => ?_)
  refine Aw_loopk (ι := Nat × Nat) [4] [] (fun (k, g) => [(5, .d (iv k)), (3, .ow 3 g)]) (fun (k, g) => [(3, g, .arr 37 6 (((m.take k).filter L.check).map Event.row))]) (fun (k, g) => k ≤ m.length) (fun (k, g) => m.length - k) ((0, g0)) (Nat.zero_le _) ⟨Sub.rfl, Sub.rfl, trivial⟩ ⟨rfl, trivial⟩ ?_
  rintro ⟨k, g⟩ hk0
  refine Aw_seq (Aw_seq (Aw_region ?_))
  refine Al_p Pu_mvl ?_
  refine Al_p Pu_mvl ?_
  refine Al_p (Pu_len rfl Try.underlying22 rfl (by first | exact List.length_map .. | exact rfl)) ?_
  refine Al_p (Pu_cmp rfl rfl rfl rfl) ?_
  refine Al_nil ?_
  refine Aw_cond rfl (fun h12 => ?_) (fun h12 => ?_)
  · (try simp only [decide_eq_true_eq, decide_eq_false_iff_not, Bool.and_eq_true, Bool.or_eq_true, Bool.and_eq_false_iff, Bool.or_eq_false_iff, Bool.not_eq_true', Bool.not_eq_false', beq_iff_eq, Bool.not_eq_eq_eq_not, Bool.not_true, Bool.not_false, List.length_map, Bool.and_true, Bool.and_false, Bool.false_and, Bool.true_and, Bool.or_false, Bool.false_or] at h12)
    have hkl : k < m.length := by omega
    have hsn := L.filter_snoc L.check m hkl
    have hfl : ((m.take k).filter L.check).length ≤ k := Nat.le_trans (List.length_filter_le _ _) (by rw [List.length_take]; omega)
    refine Aw_skip ?_
    -- join 0: live [3, 4, 5], turned [3]
    refine Aw_seq (Aw_block (Aw_seq (Aw_region ?_)))
    refine Al_p Pu_mvl ?_
    refine Al_p Pu_mvl ?_
    refine Al_p (Pu_index rfl Try.underlying22 Try.sizeOf37 rfl rfl (rfl) (mapget (by omega))) ?_
    refine Al_p (Pu_loadN rfl Try.isAgg37 Try.sizeOf37 rfl (Nat.le_of_ble_eq_true rfl)) ?_
    refine Al_p (Pu_call (rlcheck_a _) rfl ⟨Sub.rfl, trivial⟩) ?_
    refine Al_p Pu_mvr ?_
    refine Al_nil (Aw_seq (Aw_region ?_))
    refine Al_p Pu_mvl ?_
    refine Al_nil ?_
    refine Aw_cond rfl (fun h20 => ?_) (fun h20 => ?_)
    · (try simp only [decide_eq_true_eq, decide_eq_false_iff_not, Bool.and_eq_true, Bool.or_eq_true, Bool.and_eq_false_iff, Bool.or_eq_false_iff, Bool.not_eq_true', Bool.not_eq_false', beq_iff_eq, Bool.not_eq_eq_eq_not, Bool.not_true, Bool.not_false, List.length_map, Bool.and_true, Bool.and_false, Bool.false_and, Bool.true_and, Bool.or_false, Bool.false_or] at h20)
      refine Aw_region ?_
      refine Al_p Pu_mvl ?_
      refine Al_p Pu_mvl ?_
      refine Al_p Pu_mvl ?_
      refine Al_p (Pu_index rfl Try.underlying22 Try.sizeOf37 rfl rfl (rfl) (mapget (by omega))) ?_
      refine Al_p (Pu_loadN rfl Try.isAgg37 Try.sizeOf37 rfl (Nat.le_of_ble_eq_true rfl)) ?_
      refine Al_p (Pu_slice1 rfl Try.underlying22 Try.sizeOf37 Try.zeroValue37 rfl (by decide) (by decide) (by kernel_rfl) rfl rfl rfl) ?_
      refine Al_append rfl rfl rfl (by decide) (by kernel_rfl) elem22 (by decide) Try.sizeOf37 rfl rfl rfl (by simp; omega) (by decide) (fun g27 => ?_)
      refine Al_p Pu_mvr ?_
      refine Al_nil (Aw_region ?_)
      refine Al_p Pu_mvl ?_
      refine Al_p (Pu_add rfl rfl rfl (fun h1 h2 => by simp only [A.inI, A.maxI] at *; omega)) ?_
      refine Al_p Pu_mvr ?_
      refine Al_nil ?_
      exact ⟨(k + 1, g27), by omega, by simp only []; omega, Le.ov ⟨Sub.num (by omega), Sub.rfl, trivial⟩ ⟨Sub.rfl, trivial⟩ ⟨obeq (by rw [hsn, h20, if_pos rfl, List.map_append]; rfl), trivial⟩ trivial⟩ -- loop 0 next.0
    · (try simp only [decide_eq_true_eq, decide_eq_false_iff_not, Bool.and_eq_true, Bool.or_eq_true, Bool.and_eq_false_iff, Bool.or_eq_false_iff, Bool.not_eq_true', Bool.not_eq_false', beq_iff_eq, Bool.not_eq_eq_eq_not, Bool.not_true, Bool.not_false, List.length_map, Bool.and_true, Bool.and_false, Bool.false_and, Bool.true_and, Bool.or_false, Bool.false_or] at h20)
      refine Aw_skip (Aw_region ?_)
      refine Al_p Pu_mvl ?_
      refine Al_p (Pu_add rfl rfl rfl (fun h1 h2 => by simp only [A.inI, A.maxI] at *; omega)) ?_
      refine Al_p Pu_mvr ?_
      refine Al_nil ?_
      exact ⟨(k + 1, g), by omega, by simp only []; omega, Le.ov ⟨Sub.num (by omega), Sub.rfl, trivial⟩ ⟨Sub.rfl, trivial⟩ ⟨obeq (by rw [hsn, h20]; simp), trivial⟩ trivial⟩ -- loop 0 next.1
  · (try simp only [decide_eq_true_eq, decide_eq_false_iff_not, Bool.and_eq_true, Bool.or_eq_true, Bool.and_eq_false_iff, Bool.or_eq_false_iff, Bool.not_eq_true', Bool.not_eq_false', beq_iff_eq, Bool.not_eq_eq_eq_not, Bool.not_true, Bool.not_false, List.length_map, Bool.and_true, Bool.and_false, Bool.false_and, Bool.true_and, Bool.or_false, Bool.false_or] at h12)
    have he : (m.take k).filter L.check = L.good l := by rw [hgd, List.take_of_length_le (by omega)]
    refine Aw_exit (Aw_seq (Aw_region ?_))
    refine Al_p Pu_mvl ?_
    refine Al_p Pu_mvr ?_
    refine Al_nil ?_
    refine Aw_frz hnl (k := 3) [2] rfl ⟨rfl, trivial⟩ ?_
    refine Aw_ret ?_
    exact Sub.d (by rw [he]) -- ret 0
end Go.Proofs.Ytlcahhlghjbnkaa
end

section
namespace Go.Proofs.Ytlcahhlghjbnkaa
namespace V
/-- The number whose bytes stand first, and what stands behind it. -/
def rd : List UInt8 → Option (Nat × List UInt8)
  | [] => none
  | c :: r => if c.toNat < 128 then some (c.toNat, r) else match rd r with
    | some (m, t) => if m = 0 then none else some (c.toNat - 128 + 128 * m, t)
    | none => none
theorem rd_some : ∀ (l : List UInt8) (n : Nat) (r : List UInt8), rd l = some (n, r) → l = num n ++ r
  | [], n, r, h => by simp [rd] at h
  | c :: t, n, r, h => by
    rw [rd] at h
    split at h
    · rename_i hc
      simp only [Option.some.injEq, Prod.mk.injEq] at h
      obtain ⟨rfl, rfl⟩ := h
      rw [num_small hc]; simp
    · rename_i hc
      split at h
      · rename_i m t' hr
        split at h
        · cases h
        · rename_i hm
          simp only [Option.some.injEq, Prod.mk.injEq] at h
          obtain ⟨rfl, rfl⟩ := h
          have ih := rd_some t m t' hr
          have hlt := UInt8.toNat_lt c
          rw [num_big (by omega), ih]
          have e1 : (c.toNat - 128 + 128 * m) / 128 = m := by omega
          have e2 : (c.toNat - 128 + 128 * m) % 128 = c.toNat - 128 := by omega
          rw [e1, e2, show 128 + (c.toNat - 128) = c.toNat from by omega, UInt8.ofNat_toNat]
          simp
      · cases h
theorem rd_num (n : Nat) : ∀ r, rd (num n ++ r) = some (n, r) := by
  induction n using Nat.strongRecOn with
  | _ n ih =>
    intro r
    by_cases h : n < 128
    · rw [num_small h]
      simp only [List.cons_append, List.nil_append, rd]
      have : (UInt8.ofNat n).toNat = n := by simp; omega
      rw [this, if_pos h]
    · rw [num_big h]
      simp only [List.cons_append, rd]
      have e : (UInt8.ofNat (128 + n % 128)).toNat = 128 + n % 128 := by simp; omega
      rw [ih (n / 128) (by omega) r, e, if_neg (by omega)]
      simp only
      rw [if_neg (by omega)]
      simp only [Option.some.injEq, Prod.mk.injEq, and_true]
      omega
/-- What a reader has, k bytes on, with acc of them; what stands there yields the rest. -/
def comb (k acc : Nat) : Option (Nat × List UInt8) → Option (Nat × List UInt8)
  | some (m, t) => if (k = 0 ∨ m ≠ 0) ∧ acc + 128 ^ k * m < 18446744073709551616 then some (acc + 128 ^ k * m, t) else none
  | none => none
/-- A number of 64 bits, read. -/
def rdB (l : List UInt8) : Option (Nat × List UInt8) := comb 0 0 (rd l)
theorem comb_more {k acc : Nat} {c : UInt8} {t : List UInt8} (h : 128 ≤ c.toNat) : comb k acc (rd (c :: t)) = comb (k + 1) (acc + 128 ^ k * (c.toNat - 128)) (rd t) := by
  rw [rd, if_neg (by omega)]
  cases hr : rd t with
  | none => rfl
  | some x =>
    obtain ⟨m, t'⟩ := x
    simp only
    by_cases hm : m = 0
    · rw [if_pos hm]
      simp [comb, hm]
    · rw [if_neg hm]
      have e : acc + 128 ^ k * (c.toNat - 128 + 128 * m) = acc + 128 ^ k * (c.toNat - 128) + 128 ^ (k + 1) * m := by
        rw [Nat.mul_add, Nat.pow_succ, Nat.mul_assoc]; omega
      simp only [comb, e]
      have h1 : k = 0 ∨ c.toNat - 128 + 128 * m ≠ 0 := .inr (by omega)
      have h2 : k + 1 = 0 ∨ m ≠ 0 := .inr hm
      by_cases hb : acc + 128 ^ k * (c.toNat - 128) + 128 ^ (k + 1) * m < 18446744073709551616
      · rw [if_pos ⟨h1, hb⟩, if_pos ⟨h2, hb⟩]
      · rw [if_neg (fun h => hb h.2), if_neg (fun h => hb h.2)]
theorem comb_last {k acc : Nat} {c : UInt8} {t : List UInt8} (h : c.toNat < 128) : comb k acc (rd (c :: t)) = if (k = 0 ∨ c.toNat ≠ 0) ∧ acc + 128 ^ k * c.toNat < 18446744073709551616 then some (acc + 128 ^ k * c.toNat, t) else none := by
  rw [rd, if_pos h]; rfl
/-- The least that a number's bytes yield. -/
theorem rd_low {c : UInt8} {t : List UInt8} {m : Nat} {r : List UInt8} (h : rd (c :: t) = some (m, r)) : c.toNat % 128 ≤ m := by
  rw [rd] at h
  have := UInt8.toNat_lt c
  split at h
  · simp only [Option.some.injEq, Prod.mk.injEq] at h; omega
  · split at h
    · split at h
      · cases h
      · simp only [Option.some.injEq, Prod.mk.injEq] at h; omega
    · cases h
theorem comb_over {k acc : Nat} {c : UInt8} {t : List UInt8} (h : 18446744073709551616 ≤ 128 ^ k * (c.toNat % 128)) : comb k acc (rd (c :: t)) = none := by
  cases hr : rd (c :: t) with
  | none => rfl
  | some x =>
    obtain ⟨m, r⟩ := x
    have h1 := rd_low hr
    have h2 : 128 ^ k * (c.toNat % 128) ≤ 128 ^ k * m := Nat.mul_le_mul_left _ h1
    simp only [comb]
    rw [if_neg (by omega)]
theorem comb_far {k acc : Nat} (hk : 10 ≤ k) (x : Option (Nat × List UInt8)) : comb k acc x = none := by
  cases x with
  | none => rfl
  | some x =>
    obtain ⟨m, r⟩ := x
    simp only [comb]
    rw [if_neg]
    rintro ⟨h1, h2⟩
    have h3 : (128 : Nat) ^ 10 ≤ 128 ^ k := Nat.pow_le_pow_right (by omega) hk
    have h4 : 128 ^ k * 1 ≤ 128 ^ k * m := Nat.mul_le_mul_left _ (by omega)
    omega
end V
end Go.Proofs.Ytlcahhlghjbnkaa
end

section
namespace Go.Proofs.Ytlcahhlghjbnkaa.A
open Go Go.RowKit
abbrev Nm := Nat → Nat → Nat × Nat
abbrev pull (r : Nm) (ρ : Rho) : Rho := fun k g => ρ (r k g).1 (r k g).2
def CV.ren (r : Nm) : CV → CV
  | .d a => .d a
  | .bx k g off => .bx (r k g).1 (r k g).2 off
  | .ow k g => .ow (r k g).1 (r k g).2
  | .eq v => .eq v
def SV.ren (r : Nm) : SV → SV
  | .any => .any
  | .d a => .d a
  | .bx k g off => .bx (r k g).1 (r k g).2 off
  | .ow k g => .ow (r k g).1 (r k g).2
  | .ifb p s => .ifb p (s.ren r)
  | .fnb f a b => .fnb f (a.map (CV.ren r)) (b.map (CV.ren r))
  | .tp l => .tp (l.map (CV.ren r))
  | .ag l => .ag (l.map (CV.ren r))
  | .psl l => .psl (l.map (CV.ren r))
  | .pc c => .pc (c.ren r)
  | .ows k g n lo hi => .ows (r k g).1 (r k g).2 n lo hi
  | .slc n rows => .slc n rows
  | .eq v => .eq v
def OP.ren (r : Nm) (I : OP) : OP := ⟨I.F, fun M w ρ h => I.I M w (pull r ρ) h, fun k hk h => I.mono k hk h, fun hr h => I.rho (fun k g x hx => hr _ _ _ hx) h, fun h => I.lt h⟩
def AO.ren (r : Nm) : AO → AO
  | .box T cs => .box T (cs.map (SV.ren r))
  | .arr T n rows => .arr T n rows
  | .op I => .op (I.ren r)
section
variable {M : Nat → Prop} {w : World} {ρ : Rho} {r : Nm}
theorem CRep.ren {c : CV} {x : Value} : CRep M w ρ (c.ren r) x ↔ CRep M w (pull r ρ) c x := by cases c <;> rfl
theorem CReps.ren {l : List CV} {vs : List Value} : CReps M w ρ (l.map (CV.ren r)) vs ↔ CReps M w (pull r ρ) l vs := by
  unfold CReps
  rw [List.length_map]
  refine and_congr_right fun _ => ⟨fun h j c x h1 h2 => CRep.ren.1 (h j _ x (by rw [List.getElem?_map, h1]; rfl) h2), fun h j c x h1 h2 => ?_⟩
  rw [List.getElem?_map] at h1
  obtain ⟨c', h3, rfl⟩ := Option.map_eq_some_iff.1 h1
  exact CRep.ren.2 (h j c' x h3 h2)
theorem SRep.ren {s : SV} {x : Value} : SRep M w ρ (s.ren r) x ↔ SRep M w (pull r ρ) s x := by
  induction s with
  | any => rfl
  | d a => rfl
  | bx k g off => rfl
  | ow k g => rfl
  | ifb p s ih => exact and_congr (imp_congr_right fun _ => ih) Iff.rfl
  | fnb f a b => exact exists_congr fun us => exists_congr fun vs => and_congr_right fun _ => and_congr CReps.ren CReps.ren
  | tp l => exact exists_congr fun vs => and_congr_right fun _ => CReps.ren
  | ag l => exact exists_congr fun vs => and_congr_right fun _ => and_congr_right fun _ => CReps.ren
  | psl l =>
    unfold SV.ren SRep
    rw [List.length_map]
    refine exists_congr fun b => exists_congr fun o => exists_congr fun cap => and_congr_right fun _ => and_congr_right fun _ => and_congr_right fun _ => ⟨fun h j c h1 => ?_, fun h j c h1 => ?_⟩
    · obtain ⟨h2, v, h3, h4, h5⟩ := h j (c.ren r) (by rw [List.getElem?_map, h1]; rfl)
      exact ⟨h2, v, h3, h4, CRep.ren.1 h5⟩
    · rw [List.getElem?_map] at h1
      obtain ⟨c', h6, rfl⟩ := Option.map_eq_some_iff.1 h1
      obtain ⟨h2, v, h3, h4, h5⟩ := h j c' h6
      exact ⟨h2, v, h3, h4, CRep.ren.2 h5⟩
  | pc c => exact exists_congr fun b => exists_congr fun o => exists_congr fun v => and_congr_right fun _ => and_congr_right fun _ => and_congr_right fun _ => and_congr_right fun _ => CRep.ren
  | ows k g n lo hi => rfl
  | slc n rows => rfl
  | eq v => rfl
theorem ORep.ren {B : Base} {h : Value} {o : AO} : ORep B M w ρ h (o.ren r) ↔ ORep B M w (pull r ρ) h o := by
  cases o with
  | box T cs =>
    unfold AO.ren ORep
    refine exists_congr fun b => exists_congr fun vs => and_congr_right fun _ => and_congr_right fun _ => and_congr_right fun _ => ?_
    rw [List.length_map]
    refine and_congr_right fun _ => ⟨fun h j s x h1 h2 => ?_, fun h j s x h1 h2 => ?_⟩
    · obtain ⟨h3, h4⟩ := h j (s.ren r) x (by rw [List.getElem?_map, h1]; rfl) h2
      exact ⟨SRep.ren.1 h3, h4⟩
    · rw [List.getElem?_map] at h1
      obtain ⟨s', h6, rfl⟩ := Option.map_eq_some_iff.1 h1
      obtain ⟨h3, h4⟩ := h j s' x h6 h2
      exact ⟨SRep.ren.2 h3, h4⟩
  | arr T n rows => rfl
  | op I => rfl
theorem fpO.ren {o : AO} {h : Value} {b : Nat} : fpO (o.ren r) h b ↔ fpO o h b := by cases o <;> rfl
theorem ORep.base {B B' : Base} {h : Value} {o : AO} (ho : ORep B M w ρ h o) (hb : ∀ b, fpO o h b → B'.w.heap.size ≤ b ∨ B'.l b) : ORep B' M w ρ h o := by
  cases o with
  | box T cs =>
    obtain ⟨b, vs, rfl, h1, h2⟩ := ho
    exact ⟨b, vs, rfl, hb b rfl, h2⟩
  | arr T n rows =>
    obtain ⟨vals, h1, h2, h3, h4, _⟩ := ho
    exact ⟨vals, h1, h2, h3, h4, hb⟩
  | op I => exact ⟨hb, ho.2⟩
end
abbrev Obs := List (Nat × AO)
def Objs (B : Base) (M : Nat → Prop) (w : World) (ρ : Rho) (obs : Obs) : Prop := ∀ p ∈ obs, ∃ h, ρ p.1 0 = some h ∧ ORep B M w ρ h p.2
/-- The blocks that objects stand in. -/
def fps (ρ : Rho) (obs : Obs) (b : Nat) : Prop := ∃ p ∈ obs, ∃ h, ρ p.1 0 = some h ∧ fpO p.2 h b
def Apart (ρ : Rho) (obs : Obs) : Prop := ∀ p ∈ obs, ∀ q ∈ obs, ∀ h h' b, ρ p.1 0 = some h → ρ q.1 0 = some h' → fpO p.2 h b → fpO q.2 h' b → p.1 = q.1
def ARep (M : Nat → Prop) (w : World) (ρ : Rho) (ss : List SV) (vs : List Value) : Prop := vs.length = ss.length ∧ ∀ (j : Nat) (s : SV) (x : Value), ss[j]? = some s → vs[j]? = some x → SRep M w ρ s x
def GOut (M : Nat → Prop) (w : World) (ρ : Rho) (obs : Obs) (w' : World) (obs' : Obs) (res : SV) (v : Value) : Prop :=
  ∃ ρ' : Rho, Bnd ρ' ∧ (∀ p ∈ obs, ρ' p.1 0 = ρ p.1 0) ∧ Objs ⟨w, fps ρ obs, [], fun _ _ => none⟩ (fun b => M b ∨ fps ρ' obs' b) w' ρ' obs' ∧ Apart ρ' obs' ∧ SRep (fun b => M b ∨ fps ρ' obs' b) w' ρ' res v
def GPost (M : Nat → Prop) (w : World) (ρ : Rho) (obs : Obs) (w' : World) (e : Ending) : Option (Obs × SV) → Prop
  | none => ∃ pv, e = .panicked [{ v := .iface pv (.agg #[]), recovered := false }]
  | some (obs', res) => ∃ v, e = .returned v ∧ GOut M w ρ obs w' obs' res v
/-- A call that is lent objects: what it leaves, and what it yields; none: it panics. -/
def GCall (P : Program) (f : FuncId) (ins : List SV) (obs : Obs) (R : Option (Obs × SV)) : Prop :=
  (∀ (vs : Array Value) (w : World), (callFunc f vs).run P w = .ok (.enter f vs) w) ∧
  ∀ (M : Nat → Prop) (w : World) (ρ : Rho) (vs : List Value), (∀ b, M b → b < w.heap.size) → Bnd ρ → ARep M w ρ ins vs → Objs ⟨w, fun _ => True, [], fun _ _ => none⟩ M w ρ obs → (∀ b, fps ρ obs b → M b) → Apart ρ obs →
    Calls P f vs.toArray w fun e w' => ExtL ⟨w, fps ρ obs, [], fun _ _ => none⟩ w' ∧ GPost M w ρ obs w' e R
/-- Where a contract's objects stand with the caller. -/
abbrev Pm := List (Nat × Nat × Nat)
def lookR : Pm → Nat → Option (Nat × Nat)
  | [], _ => none
  | (c, k, g) :: r, i => bif Nat.beq i c then some (k, g) else lookR r i
def nmOf (pm : Pm) : Nm := fun k g => bif Nat.beq g 0 then (match lookR pm k with | some x => x | none => (k, g)) else (k, g)
/-- New ones get the generation G. -/
def nm2 (pm : Pm) (nw : List (Nat × Nat)) (G : Nat) : Nm := fun k g => bif Nat.beq g 0 then (match lookR pm k with | some x => x | none => (match lookR (nw.map fun p => (p.1, p.2, G)) k with | some x => x | none => (k, G + 1 + g))) else (k, G + 1 + g)
def ASt.drops (st : ASt) : Pm → ASt
  | [] => st
  | (_, k, _) :: r => (st.drop k).drops r
def ASt.puts (st : ASt) : List (Nat × Nat × AO) → ASt
  | [] => st
  | (k, g, o) :: r => (st.put k g o).puts r
def PreO (st : ASt) (r : Nm) : Obs → Prop
  | [] => True
  | p :: l => st.ob (r p.1 0).1 = some ((r p.1 0).2, p.2.ren r) ∧ PreO st r l
theorem PreO.get {st : ASt} {r : Nm} : ∀ {obs : Obs}, PreO st r obs → ∀ p ∈ obs, st.ob (r p.1 0).1 = some ((r p.1 0).2, p.2.ren r)
  | [], _, p, hp => by cases hp
  | q :: l, h, p, hp => by
    rcases List.mem_cons.1 hp with rfl | hp
    · exact h.1
    · exact h.2.get p hp
def ArgsS (st : ASt) : List Operand → List SV → Prop
  | [], [] => True
  | x :: xs, s :: ss => Sub (st.ev x) s ∧ ArgsS st xs ss
  | _, _ => False
theorem ArgsS.rep {st : ASt} {M : Nat → Prop} {w : World} {ρ : Rho} {a : Act} : ∀ {xs : List Operand} {ss : List SV}, ArgsS st xs ss → (∀ x ∈ xs, SRep M w ρ (st.ev x) (a.eval x)) → ARep M w ρ ss (xs.map a.eval)
  | [], [], _, _ => ⟨rfl, fun j a x h => by simp at h⟩
  | x :: xs, b :: aa, h, hs => by
    have ih := ArgsS.rep (a := a) h.2 fun y hy => hs y (by simp [hy])
    refine ⟨by simp [ih.1], fun j c y h1 h2 => ?_⟩
    cases j with
    | zero =>
      simp at h1 h2
      subst h1 h2
      exact h.1 _ _ _ _ (hs x (by simp))
    | succ j => exact ih.2 j c y (by simpa using h1) (by simpa using h2)
  | [], _ :: _, h, _ => h.elim
  | _ :: _, [], h, _ => h.elim
def nodupB : List Nat → Bool
  | [] => true
  | x :: r => r.all (fun y => !Nat.beq x y) && nodupB r
theorem nodupB.inj {α : Type} {f : α → Nat} : ∀ {l : List α}, nodupB (l.map f) = true → ∀ p ∈ l, ∀ q ∈ l, f p = f q → p = q
  | [], _, p, hp, _, _, _ => by cases hp
  | x :: l, h, p, hp, q, hq, e => by
    simp only [List.map_cons, nodupB, Bool.and_eq_true, List.all_eq_true] at h
    have hne : ∀ y ∈ l, f x ≠ f y := fun y hy e' => by
      have := h.1 (f y) (List.mem_map.2 ⟨y, hy, rfl⟩)
      rw [e'] at this
      simp at this
    rcases List.mem_cons.1 hp with e1 | hp2
    · rcases List.mem_cons.1 hq with e2 | hq2
      · rw [e1, e2]
      · exact (hne q hq2 (by rw [← e1]; exact e)).elim
    · rcases List.mem_cons.1 hq with e2 | hq2
      · exact (hne p hp2 (by rw [← e2]; exact e.symm)).elim
      · exact nodupB.inj h.2 p hp2 q hq2 e
/-- What is asked of the names of a call. -/
def nmB (obs obs' : Obs) (pm : Pm) (nw : List (Nat × Nat)) : Bool :=
  (obs.all fun p => (lookR pm p.1).isSome) && nodupB (obs.map (·.1)) && nodupB (obs'.map (·.1)) && nodupB (pm.map (·.1)) && nodupB (pm.map (·.2.1)) && nodupB (nw.map (·.1)) && nodupB (nw.map (·.2)) &&
  (obs'.all fun p => (obs.any fun q => Nat.beq q.1 p.1) || (!(lookR pm p.1).isSome && (lookR (nw.map fun q => (q.1, q.2, 0)) p.1).isSome)) &&
  nodupB (obs'.map fun p => (nm2 pm nw 0 p.1 0).1) && (pm.all fun q => obs.any fun p => Nat.beq p.1 q.1)
theorem lookR_mem : ∀ {pm : Pm} {c : Nat} {x : Nat × Nat}, lookR pm c = some x → (c, x.1, x.2) ∈ pm
  | [], _, _, h => by cases h
  | (c', k, g) :: r, c, x, h => by
    simp only [lookR] at h
    cases hb : Nat.beq c c' with
    | true =>
      rw [hb] at h
      simp only [cond_true, Option.some.injEq] at h
      obtain rfl := Nat.eq_of_beq_eq_true hb
      subst h
      simp
    | false =>
      rw [hb] at h
      exact List.mem_cons_of_mem _ (lookR_mem h)
theorem drops_ob {k g : Nat} {o : AO} : ∀ {pm : Pm} {st : ASt}, (st.drops pm).ob k = some (g, o) → st.ob k = some (g, o) ∧ ∀ p ∈ pm, p.2.1 ≠ k
  | [], _, h => ⟨h, fun p hp => by cases hp⟩
  | (c, k', g') :: r, st, h => by
    obtain ⟨h1, h2⟩ := drops_ob (pm := r) h
    have h3 : (bif Nat.beq k k' then none else st.ob k) = some (g, o) := h1
    cases hb : Nat.beq k k' with
    | true => rw [hb] at h3; cases h3
    | false =>
      rw [hb] at h3
      refine ⟨h3, fun p hp e => ?_⟩
      rcases List.mem_cons.1 hp with rfl | hp
      · simp only at e; subst e; simp at hb
      · exact h2 p hp e
theorem puts_ob {k g : Nat} {o : AO} : ∀ {l : List (Nat × Nat × AO)} {st : ASt}, (st.puts l).ob k = some (g, o) → (k, g, o) ∈ l ∨ st.ob k = some (g, o)
  | [], _, h => .inr h
  | (k', g', o') :: r, st, h => by
    rcases puts_ob (l := r) h with h1 | h1
    · exact .inl (List.mem_cons_of_mem _ h1)
    · have h3 : (bif Nat.beq k k' then some (g', o') else st.ob k) = some (g, o) := h1
      cases hb : Nat.beq k k' with
      | true =>
        rw [hb] at h3
        simp only [cond_true, Option.some.injEq, Prod.mk.injEq] at h3
        obtain rfl := Nat.eq_of_beq_eq_true hb
        obtain ⟨rfl, rfl⟩ := h3
        exact .inl (by simp)
      | false => rw [hb] at h3; exact .inr h3
theorem drops_sl {i : Nat} : ∀ (pm : Pm) (st : ASt), (st.drops pm).sl i = st.sl i
  | [], _ => rfl
  | (_, k, _) :: r, st => drops_sl r (st.drop k)
theorem puts_sl {i : Nat} : ∀ (l : List (Nat × Nat × AO)) (st : ASt), (st.puts l).sl i = st.sl i
  | [], _ => rfl
  | (k, g, o) :: r, st => puts_sl r (st.put k g o)
/-- The caller's state behind a call. -/
def ASt.aft (st : ASt) (pm : Pm) (obs' : Obs) (r : Nm) : ASt := (st.drops pm).puts (obs'.map fun p => ((r p.1 0).1, (r p.1 0).2, p.2.ren r))
/-- Who had the place k of the new ones. -/
def invN : List (Nat × Nat) → Nat → Option Nat
  | [], _ => none
  | (c, k) :: r, i => bif Nat.beq i k then some c else invN r i
theorem invN_of : ∀ {nw : List (Nat × Nat)} {c k : Nat}, nodupB (nw.map (·.2)) = true → (c, k) ∈ nw → invN nw k = some c
  | [], _, _, _, h => by cases h
  | (c', k') :: r, c, k, hd, h => by
    simp only [List.map_cons, nodupB, Bool.and_eq_true, List.all_eq_true] at hd
    simp only [invN]
    rcases List.mem_cons.1 h with e | h2
    · cases e; simp
    · have hne : Nat.beq k k' = false := by
        cases hb : Nat.beq k k' with
        | false => rfl
        | true =>
          have := Nat.eq_of_beq_eq_true hb
          subst this
          have := hd.1 k (List.mem_map.2 ⟨(c, k), h2, rfl⟩)
          simp at this
      rw [hne]
      exact invN_of hd.2 h2
section
variable {P : Program} {N : Nat} {M0 : Nat → Prop} {w0 : Base} {ops : Array Oper} {Q : Exit → ASt → Prop} {o : Oper} {l : List Oper} {st : ASt}
theorem nmOf_bnd {ρ : Rho} {pm : Pm} (h : Bnd ρ) : Bnd (pull (nmOf pm) ρ) := by
  obtain ⟨G, hG⟩ := h
  refine ⟨G + 1, fun k g hh => ?_⟩
  cases g with
  | zero => omega
  | succ g => have := hG k (g + 1) hh; omega
structure Lent (st : ASt) (ρ : Rho) (obs : Obs) (pm : Pm) : Prop where
  pre : PreO st (nmOf pm) obs
  all : ∀ p ∈ obs, (lookR pm p.1).isSome = true
theorem Lent.key {ρ : Rho} {obs : Obs} {pm : Pm} (h : Lent st ρ obs pm) {p : Nat × AO} (hp : p ∈ obs) : ∃ k g, nmOf pm p.1 0 = (k, g) ∧ (p.1, k, g) ∈ pm ∧ st.ob k = some (g, p.2.ren (nmOf pm)) := by
  have h1 := h.all p hp
  obtain ⟨⟨k, g⟩, hx⟩ := Option.isSome_iff_exists.1 h1
  have e : nmOf pm p.1 0 = (k, g) := by simp [nmOf, hx]
  refine ⟨k, g, e, lookR_mem hx, ?_⟩
  have := h.pre.get p hp
  rw [e] at this
  exact this
/-- What a contract asks, of a caller's state. -/
theorem SimR.lent {ρ : Rho} {a : Act} {w : World} (hs : SimR N M0 w0 st ρ a w) {obs : Obs} {pm : Pm} (hl : Lent st ρ obs pm) (hd1 : nodupB (pm.map (·.2.1)) = true) :
    Objs ⟨w, fun _ => True, [], fun _ _ => none⟩ (Mt M0 ρ st.ob) w (pull (nmOf pm) ρ) obs ∧ (∀ b, fps (pull (nmOf pm) ρ) obs b → Mt M0 ρ st.ob b) ∧ Apart (pull (nmOf pm) ρ) obs ∧
    (∀ b, fps (pull (nmOf pm) ρ) obs b → w0.w.heap.size ≤ b ∨ w0.l b) ∧
    (∀ b k g o h, fps (pull (nmOf pm) ρ) obs b → st.ob k = some (g, o) → ρ k g = some h → fpO o h b → ∃ p ∈ pm, p.2.1 = k) := by
  refine ⟨fun p hp => ?_, fun b hb => ?_, fun p hp q hq h h' b h1 h2 h3 h4 => ?_, fun b hb => ?_, fun b k g o h hb h1 h2 h3 => ?_⟩
  · obtain ⟨k, g, e, _, hob⟩ := hl.key hp
    obtain ⟨h, h1, h2⟩ := hs.obj k g _ hob
    refine ⟨h, by show ρ (nmOf pm p.1 0).1 (nmOf pm p.1 0).2 = _; rw [e]; exact h1, (ORep.ren.1 h2).base fun b _ => .inr trivial⟩
  · obtain ⟨p, hp, h, h1, h2⟩ := hb
    obtain ⟨k, g, e, _, hob⟩ := hl.key hp
    have h1' : ρ (nmOf pm p.1 0).1 (nmOf pm p.1 0).2 = some h := h1
    rw [e] at h1'
    exact .inr ⟨k, g, _, h, hob, h1', fpO.ren.2 h2⟩
  · obtain ⟨k, g, e, hm, hob⟩ := hl.key hp
    obtain ⟨k', g', e', hm', hob'⟩ := hl.key hq
    have h1' : ρ (nmOf pm p.1 0).1 (nmOf pm p.1 0).2 = some h := h1
    have h2' : ρ (nmOf pm q.1 0).1 (nmOf pm q.1 0).2 = some h' := h2
    rw [e] at h1'
    rw [e'] at h2'
    have hk := hs.apart k g _ k' g' _ h h' b hob hob' h1' h2' (fpO.ren.2 h3) (fpO.ren.2 h4)
    have := nodupB.inj hd1 _ hm _ hm' hk
    simp only [Prod.mk.injEq] at this
    exact this.1
  · obtain ⟨p, hp, h, h1, h2⟩ := hb
    obtain ⟨k, g, e, _, hob⟩ := hl.key hp
    have h1' : ρ (nmOf pm p.1 0).1 (nmOf pm p.1 0).2 = some h := h1
    rw [e] at h1'
    obtain ⟨h', h3, h4⟩ := hs.obj k g _ hob
    rw [h1'] at h3; cases h3
    exact (h4.blk_lt (fpO.ren.2 h2)).1
  · obtain ⟨p, hp, h', h4, h5⟩ := hb
    obtain ⟨k', g', e, hm, hob⟩ := hl.key hp
    have h4' : ρ (nmOf pm p.1 0).1 (nmOf pm p.1 0).2 = some h' := h4
    rw [e] at h4'
    exact ⟨_, hm, hs.apart k' g' _ k g o h' h b hob h1 h4' h2 (fpO.ren.2 h5) h3⟩
/-- The caller's state behind a call. -/
theorem SimR.aft {ρ : Rho} {a : Act} {w w' : World} (hs : SimR N M0 w0 st ρ a w) {obs obs' : Obs} {pm : Pm} {nw : List (Nat × Nat)} {res : SV} {v : Value} (hl : PreO st (nmOf pm) obs) (hB : nmB obs obs' pm nw = true)
    (hx : ExtL ⟨w, fps (pull (nmOf pm) ρ) obs, [], fun _ _ => none⟩ w') (ho : GOut (Mt M0 ρ st.ob) w (pull (nmOf pm) ρ) obs w' obs' res v) :
    ∃ G ρ', SimR N M0 w0 (st.aft pm obs' (nm2 pm nw G)) ρ' a w' ∧ SRep (Mt M0 ρ' (st.aft pm obs' (nm2 pm nw G)).ob) w' ρ' (res.ren (nm2 pm nw G)) v := by
  simp only [nmB, Bool.and_eq_true] at hB
  obtain ⟨⟨⟨⟨⟨⟨⟨⟨⟨hb1, hb2⟩, hb3⟩, hb4⟩, hb5⟩, hb6⟩, hb7⟩, hb8⟩, hb9⟩, hb10⟩ := hB
  have hlent : Lent st ρ obs pm := ⟨hl, fun p hp => List.all_eq_true.1 hb1 p hp⟩
  obtain ⟨l1, l2, l3, l4, l5⟩ := hs.lent hlent hb5
  obtain ⟨ρ1, ⟨G1, hG1⟩, hpin, hobs, hap, hres⟩ := ho
  obtain ⟨G, hG⟩ := hs.gens
  let ρ' : Rho := fun k g => if g < G then ρ k g else if g = G then (match invN nw k with | some c => ρ1 c 0 | none => none) else ρ1 k (g - G - 1)
  have hρ : RhoLe ρ ρ' := fun k g x hx => by
    show (if g < G then ρ k g else _) = some x
    rw [if_pos (hG k g (by rw [hx]; simp))]; exact hx
  have hρG : ∀ k g, ρ' k (G + 1 + g) = ρ1 k g := fun k g => by
    show (if G + 1 + g < G then _ else if G + 1 + g = G then _ else ρ1 k (G + 1 + g - G - 1)) = _
    rw [if_neg (by omega), if_neg (by omega), show G + 1 + g - G - 1 = g from by omega]
  -- names of the contract, with the caller
  have hnw : ∀ c k, (c, k) ∈ nw → ρ' k G = ρ1 c 0 := fun c k h => by
    show (if G < G then _ else if G = G then _ else _) = _
    rw [if_neg (by omega), if_pos rfl, invN_of hb7 h]
  have hpm : ∀ c k g, lookR pm c = some (k, g) → (∃ p ∈ obs, p.1 = c) → ρ' k g = ρ1 c 0 := fun c k g h ⟨p, hp, e⟩ => by
    subst e
    obtain ⟨h', h1, _⟩ := l1 p hp
    rw [hpin p hp, h1]
    have : ρ (nmOf pm p.1 0).1 (nmOf pm p.1 0).2 = some h' := h1
    have e : nmOf pm p.1 0 = (k, g) := by simp [nmOf, h]
    rw [e] at this
    exact hρ _ _ _ this
  have hname : ∀ p ∈ obs', ρ' (nm2 pm nw G p.1 0).1 (nm2 pm nw G p.1 0).2 = ρ1 p.1 0 := fun p hp => by
    have h8 := List.all_eq_true.1 hb8 p hp
    simp only [Bool.or_eq_true, List.any_eq_true, Bool.and_eq_true, Bool.not_eq_true'] at h8
    rcases h8 with ⟨q, hq, hqp⟩ | ⟨h8, h9⟩
    · have e := Nat.eq_of_beq_eq_true hqp
      obtain ⟨⟨k, g⟩, hx⟩ := Option.isSome_iff_exists.1 (hlent.all q hq)
      rw [e] at hx
      have e2 : nm2 pm nw G p.1 0 = (k, g) := by simp [nm2, hx]
      rw [e2]
      exact hpm _ _ _ hx ⟨q, hq, e⟩
    · have h8' : lookR pm p.1 = none := by simpa using h8
      obtain ⟨⟨k, g⟩, hx⟩ := Option.isSome_iff_exists.1 h9
      obtain ⟨q, hq, e3⟩ := List.mem_map.1 (lookR_mem hx)
      simp only [Prod.mk.injEq] at e3
      obtain ⟨e3, e4, _⟩ := e3
      have hx2 : lookR (nw.map fun q => (q.1, q.2, G)) p.1 = some (k, G) := by
        have gen : ∀ (l : List (Nat × Nat)) (g1 g2 : Nat) (c k g : Nat), lookR (l.map fun q => (q.1, q.2, g1)) c = some (k, g) → lookR (l.map fun q => (q.1, q.2, g2)) c = some (k, g2) := by
          intro l g1 g2 c k g
          induction l with
          | nil => intro h; cases h
          | cons x r ih =>
            simp only [List.map_cons, lookR]
            cases Nat.beq c x.1 with
            | true => intro h; simp only [cond_true, Option.some.injEq, Prod.mk.injEq] at h ⊢; exact ⟨h.1, trivial⟩
            | false => exact ih
        exact gen nw 0 G p.1 k g hx
      have e2 : nm2 pm nw G p.1 0 = (k, G) := by simp [nm2, h8', hx2]
      rw [e2]
      exact hnw p.1 k (by rw [← e3, ← e4]; exact hq)
  -- every name of the contract means no less with the caller
  have hpull : RhoLe ρ1 (pull (nm2 pm nw G) ρ') := fun k g x hx => by
    show ρ' (nm2 pm nw G k g).1 (nm2 pm nw G k g).2 = some x
    cases g with
    | succ g =>
      have e : nm2 pm nw G k (g + 1) = (k, G + 1 + (g + 1)) := rfl
      rw [e, hρG]; exact hx
    | zero =>
      cases h1 : lookR pm k with
      | some y =>
        obtain ⟨k2, g2⟩ := y
        have e : nm2 pm nw G k 0 = (k2, g2) := by simp [nm2, h1]
        rw [e]
        have h10 := List.all_eq_true.1 hb10 _ (lookR_mem h1)
        obtain ⟨p, hp, hpk⟩ := List.any_eq_true.1 h10
        show ρ' k2 g2 = some x
        rw [hpm k k2 g2 h1 ⟨p, hp, Nat.eq_of_beq_eq_true hpk⟩]; exact hx
      | none =>
        cases h2 : lookR (nw.map fun q => (q.1, q.2, G)) k with
        | some y =>
          obtain ⟨k2, g2⟩ := y
          have e : nm2 pm nw G k 0 = (k2, g2) := by simp [nm2, h1, h2]
          obtain ⟨q, hq, e3⟩ := List.mem_map.1 (lookR_mem h2)
          simp only [Prod.mk.injEq] at e3
          obtain ⟨e3, e4, e5⟩ := e3
          rw [e, ← e5]
          show ρ' k2 G = some x
          rw [hnw k k2 (by rw [← e3, ← e4]; exact hq)]; exact hx
        | none =>
          have e : nm2 pm nw G k 0 = (k, G + 1 + 0) := by simp [nm2, h1, h2]
          rw [e, hρG]; exact hx
  -- the objects behind the call
  have hob' : ∀ k g o2, (st.aft pm obs' (nm2 pm nw G)).ob k = some (g, o2) → (∃ p ∈ obs', nm2 pm nw G p.1 0 = (k, g) ∧ o2 = p.2.ren (nm2 pm nw G)) ∨ (st.ob k = some (g, o2) ∧ ∀ p ∈ pm, p.2.1 ≠ k) := fun k g o2 h => by
    rcases puts_ob h with h1 | h1
    · obtain ⟨p, hp, e⟩ := List.mem_map.1 h1
      simp only [Prod.mk.injEq] at e
      exact .inl ⟨p, hp, Prod.ext e.1 e.2.1, e.2.2.symm⟩
    · exact .inr (drops_ob h1)
  have hnew : ∀ p ∈ obs', ∀ k g, nm2 pm nw G p.1 0 = (k, g) → ∃ h, ρ' k g = some h ∧ ρ1 p.1 0 = some h ∧ ORep ⟨w, fps (pull (nmOf pm) ρ) obs, [], fun _ _ => none⟩ (fun b => Mt M0 ρ st.ob b ∨ fps ρ1 obs' b) w' ρ1 h p.2 := fun p hp k g e => by
    obtain ⟨h, h1, h2⟩ := hobs p hp
    have := hname p hp
    rw [e, h1] at this
    exact ⟨h, this, h1, h2⟩
  have hold : ∀ k g o2 h, st.ob k = some (g, o2) → (∀ p ∈ pm, p.2.1 ≠ k) → ρ k g = some h → ∀ b, fpO o2 h b → ¬ fps (pull (nmOf pm) ρ) obs b := fun k g o2 h h1 h2 h3 b h4 h5 => by
    obtain ⟨p, hp, e⟩ := l5 b k g o2 h h5 h1 h3 h4
    exact h2 p hp e
  have hρold : ∀ k g o2 h, st.ob k = some (g, o2) → ρ' k g = some h → ρ k g = some h := fun k g o2 h h1 h2 => by
    obtain ⟨h', h3, _⟩ := hs.obj k g o2 h1
    rw [hρ _ _ _ h3] at h2
    rw [h3, h2]
  have hMt : ∀ b, Mt M0 ρ' (st.aft pm obs' (nm2 pm nw G)).ob b → Mt M0 ρ st.ob b ∨ fps ρ1 obs' b := fun b hb => by
    rcases hb with hb | ⟨k, g, o2, h, h1, h2, h3⟩
    · exact .inl (.inl hb)
    · rcases hob' k g o2 h1 with ⟨p, hp, e, rfl⟩ | ⟨h4, _⟩
      · obtain ⟨h', k1, k2, _⟩ := hnew p hp k g e
        rw [h2] at k1; cases k1
        exact .inr ⟨p, hp, h, k2, fpO.ren.1 h3⟩
      · exact .inl (.inr ⟨k, g, o2, h, h4, hρold _ _ _ _ h4 h2, h3⟩)
  have hfn : ∀ b, fps ρ1 obs' b → w.heap.size ≤ b ∨ fps (pull (nmOf pm) ρ) obs b := fun b ⟨p, hp, h, h1, h2⟩ => by
    obtain ⟨h', h3, h4⟩ := hobs p hp
    rw [h1] at h3; cases h3
    exact (h4.blk_lt h2).1
  have hK : Known (Mt M0 ρ st.ob) (Mt M0 ρ' (st.aft pm obs' (nm2 pm nw G)).ob) w w' := fun b hb hm => by
    refine ⟨fun hm' => ?_, hx.block b hb fun h => hm (l2 b h)⟩
    rcases hMt b hm' with h | h
    · exact hm h
    · rcases hfn b h with h2 | h2
      · omega
      · exact hm (l2 b h2)
  have hKs : Known (fun b => Mt M0 ρ st.ob b ∨ fps ρ1 obs' b) (Mt M0 ρ' (st.aft pm obs' (nm2 pm nw G)).ob) w' w' := Known.sub hMt
  refine ⟨G, ρ', {
    size := hs.size
    defers := hs.defers
    slot := fun i => by
      have e : (st.aft pm obs' (nm2 pm nw G)).sl i = st.sl i := (puts_sl _ _).trans (drops_sl _ _)
      rw [e]
      exact ((hs.slot i).mono hK).rho hρ
    obj := fun k g o2 h => by
      rcases hob' k g o2 h with ⟨p, hp, e, rfl⟩ | ⟨h1, h2⟩
      · obtain ⟨h', k1, k2, k3⟩ := hnew p hp k g e
        refine ⟨h', k1, ORep.ren.2 (((k3.mono hKs fun _ _ => rfl).rho hpull).base fun b hb => ?_)⟩
        rcases (k3.blk_lt hb).1 with h3 | h3
        · exact .inl (Nat.le_trans hs.ext.size h3)
        · exact l4 b h3
      · obtain ⟨h', k1, k2⟩ := hs.obj k g o2 h1
        exact ⟨h', hρ _ _ _ k1, (k2.mono hK fun b hb => hx.block b (k2.blk_lt hb).2 (hold k g o2 h' h1 h2 k1 b hb)).rho hρ⟩
    apart := fun k g o1 k' g' o2 h h' b h1 h2 h3 h4 h5 h6 => by
      rcases hob' k g o1 h1 with ⟨p, hp, e, rfl⟩ | ⟨h1, h1n⟩
      · obtain ⟨y, k1, k2, k3⟩ := hnew p hp k g e
        rw [h3] at k1; cases k1
        rcases hob' k' g' o2 h2 with ⟨q, hq, e', rfl⟩ | ⟨h2, h2n⟩
        · obtain ⟨y, k1', k2', k3'⟩ := hnew q hq k' g' e'
          rw [h4] at k1'; cases k1'
          have hpq := hap p hp q hq h h' b k2 k2' (fpO.ren.1 h5) (fpO.ren.1 h6)
          rw [hpq, e'] at e
          simp only [Prod.mk.injEq] at e
          exact e.1.symm
        · exfalso
          have h4' := hρold _ _ _ _ h2 h4
          rcases (k3.blk_lt (fpO.ren.1 h5)).1 with h7 | h7
          · obtain ⟨y, h8, h9⟩ := hs.obj k' g' o2 h2
            rw [h4'] at h8; cases h8
            have := (h9.blk_lt h6).2
            have h7' : w.heap.size ≤ b := h7
            omega
          · exact hold k' g' o2 h' h2 h2n h4' b h6 h7
      · have h3' := hρold _ _ _ _ h1 h3
        rcases hob' k' g' o2 h2 with ⟨q, hq, e', rfl⟩ | ⟨h2, h2n⟩
        · exfalso
          obtain ⟨y, k1', k2', k3'⟩ := hnew q hq k' g' e'
          rw [h4] at k1'; cases k1'
          rcases (k3'.blk_lt (fpO.ren.1 h6)).1 with h7 | h7
          · obtain ⟨y, h8, h9⟩ := hs.obj k g o1 h1
            rw [h3'] at h8; cases h8
            have := (h9.blk_lt h5).2
            have h7' : w.heap.size ≤ b := h7
            omega
          · exact hold k g o1 h h1 h1n h3' b h5 h7
        · exact hs.apart k g o1 k' g' o2 h h' b h1 h2 h3' (hρold _ _ _ _ h2 h4) h5 h6
    gens := ⟨G + 1 + G1 + 1, fun k g hh => by
      by_cases h1 : g < G
      · omega
      · by_cases h2 : g = G
        · omega
        · have h3 : (if g < G then ρ k g else if g = G then (match invN nw k with | some c => ρ1 c 0 | none => none) else ρ1 k (g - G - 1)) ≠ none := hh
          rw [if_neg h1, if_neg h2] at h3
          have := hG1 _ _ h3
          omega⟩
    base := hs.base
    ext := by
      have h1 := hs.ext
      refine ⟨hx.os.trans h1.os, hx.tape.trans h1.tape, hx.output.trans h1.output, Nat.le_trans h1.size hx.size, fun b hb hlb => ?_⟩
      have e1 := hx.block b (Nat.lt_of_lt_of_le hb h1.size) fun h => by
        rcases l4 b h with h2 | h2
        · omega
        · exact hlb h2
      exact e1.trans (h1.block b hb hlb)
    pin := fun k g v hv => hρ _ _ _ (hs.pin k g v hv) }, SRep.ren.2 ((hres.mono hKs).rho hpull)⟩
end
end Go.Proofs.Ytlcahhlghjbnkaa.A
namespace Go.Proofs.Ytlcahhlghjbnkaa.A
open Go Go.RowKit
def CV.sv : CV → SV
  | .d a => .d a
  | .bx k g off => .bx k g off
  | .ow k g => .ow k g
  | .eq v => .eq v
theorem CV.rep {M : Nat → Prop} {w : World} {ρ : Rho} {c : CV} {x : Value} : SRep M w ρ c.sv x ↔ CRep M w ρ c x := by cases c <;> rfl
theorem ARep.append {M : Nat → Prop} {w : World} {ρ : Rho} {s t : List SV} {us vs : List Value} (h : ARep M w ρ s us) (k : ARep M w ρ t vs) : ARep M w ρ (s ++ t) (us ++ vs) := ⟨by simp [h.1, k.1], fun j a x h1 h2 => by
  rcases Nat.lt_or_ge j s.length with hj | hj
  · rw [List.getElem?_append_left hj] at h1
    rw [List.getElem?_append_left (by rw [h.1]; exact hj)] at h2
    exact h.2 j a x h1 h2
  · rw [List.getElem?_append_right hj] at h1
    rw [List.getElem?_append_right (by rw [h.1]; exact hj), h.1] at h2
    exact k.2 _ a x h1 h2⟩
theorem ARep.ren {M : Nat → Prop} {w : World} {ρ : Rho} {r : Nm} {s : List SV} {vs : List Value} (h : ARep M w ρ (s.map (SV.ren r)) vs) : ARep M w (pull r ρ) s vs := ⟨by have := h.1; rwa [List.length_map] at this, fun j a x h1 h2 => SRep.ren.1 (h.2 j _ x (by rw [List.getElem?_map, h1]; rfl) h2)⟩
section
variable {P : Program} {N : Nat} {M0 : Nat → Prop} {w0 : Base} {ops : Array Oper} {Q : Exit → ASt → Prop} {o : Oper} {l : List Oper} {st : ASt}
/-- What a call does, run. -/
theorem gcall_at {f : FuncId} {ins : List SV} {obs obs' : Obs} {res : SV} {pm : Pm} {nw : List (Nat × Nat)} {d : Nat} {a : Act} {w : World} {ρ : Rho} {vs : List Value} (hG : GCall P f ins obs (some (obs', res))) (hsim : SimR N M0 w0 st ρ a w) (hd : o.dst = some d) (hN : d < N) (hg : o.guard = none)
    (hpre : PreO st (nmOf pm) obs) (hB : nmB obs obs' pm nw = true) (hrun : (execOp a.eval o).run P w = .ok (.enter f vs.toArray) w) (hargs : ARep (Mt M0 ρ st.ob) w ρ (ins.map (SV.ren (nmOf pm))) vs)
    (h : ∀ G, Al P N M0 w0 ops Q l ((st.aft pm obs' (nm2 pm nw G)).set d (res.ren (nm2 pm nw G)))) : wpList P ops (QL N M0 w0 Q) (o :: l) a w := by
  have hB' := hB
  simp only [nmB, Bool.and_eq_true] at hB'
  obtain ⟨⟨⟨⟨⟨⟨⟨⟨⟨hb1, _⟩, _⟩, _⟩, hb5⟩, _⟩, _⟩, _⟩, _⟩, _⟩ := hB'
  obtain ⟨l1, l2, l3, l4, l5⟩ := hsim.lent ⟨hpre, fun p hp => List.all_eq_true.1 hb1 p hp⟩ hb5
  have hcall := hG.2 (Mt M0 ρ st.ob) w (pull (nmOf pm) ρ) vs hsim.mt_lt (nmOf_bnd hsim.gens) hargs.ren l1 l2 l3
  refine wpList_plain hg fun K hK => wp_upon ?_
  rw [hrun]
  refine hcall.mono fun e w' ⟨hx, v, he, ho⟩ => ⟨v, he, ?_⟩
  obtain ⟨G, ρ', hs', hr'⟩ := hsim.aft hpre hB hx ho
  refine hK _ _ ((h G).out _ _ ⟨ρ', ?_⟩)
  rw [hd]
  exact hs'.set hN hr'
/-- A call that is lent objects. -/
theorem Al_gcall {f : FuncId} {ins : List SV} {obs obs' : Obs} {res : SV} (pm : Pm) (nw : List (Nat × Nat)) {d : Nat} {xs : List Operand} {ts : Array TypeId} (hG : GCall P f ins obs (some (obs', res))) (ho : o.op = .call ⟨.value (.func f), xs.toArray, ts⟩) (hg : o.guard = none) (hd : o.dst = some d) (hN : d < N) (hc : conB o = true)
    (hpre : PreO st (nmOf pm) obs) (hB : nmB obs obs' pm nw = true) (ha : ArgsS st xs (ins.map (SV.ren (nmOf pm))))
    (h : ∀ G, Al P N M0 w0 ops Q l ((st.aft pm obs' (nm2 pm nw G)).set d (res.ren (nm2 pm nw G)))) : Al P N M0 w0 ops Q (o :: l) st := by
  refine ⟨?_⟩
  rintro a w ⟨ρ, hsim⟩
  have hev := fun y hy => hsim.ev hc y (mem_call ho y hy)
  refine gcall_at hG hsim hd hN hg hpre hB (vs := xs.map a.eval) ?_ (ha.rep fun x hx => hev x (by simpa using hx)) h
  simp only [execOp, ho, resolve, Act.eval, Deferred.ofValue, invoke, Sem.run_bind, Sem.run_pure, Result.andThen_ok]
  rw [hG.1]
  congr 2
  apply Array.ext'
  simp
/-- A call that panics: what it was lent is given up. -/
theorem Al_gpanic {f : FuncId} {ins : List SV} {obs : Obs} (pm : Pm) {xs : List Operand} {ts : Array TypeId} (hG : GCall P f ins obs none) (ho : o.op = .call ⟨.value (.func f), xs.toArray, ts⟩) (hg : o.guard = none) (hc : conB o = true)
    (hpre : PreO st (nmOf pm) obs) (hB : nmB obs [] pm [] = true) (ha : ArgsS st xs (ins.map (SV.ren (nmOf pm))))
    (h : ∀ pv, Q (.panic [{ v := .iface pv (.agg #[]), recovered := false }]) (st.drops pm)) : Al P N M0 w0 ops Q (o :: l) st := by
  refine ⟨?_⟩
  rintro a w ⟨ρ, hsim⟩
  have hev := fun y hy => hsim.ev hc y (mem_call ho y hy)
  have hB' := hB
  simp only [nmB, Bool.and_eq_true] at hB'
  obtain ⟨⟨⟨⟨⟨⟨⟨⟨⟨hb1, _⟩, _⟩, _⟩, hb5⟩, _⟩, _⟩, _⟩, _⟩, _⟩ := hB'
  obtain ⟨l1, l2, l3, l4, l5⟩ := hsim.lent ⟨hpre, fun p hp => List.all_eq_true.1 hb1 p hp⟩ hb5
  have hargs := ha.rep (M := Mt M0 ρ st.ob) (w := w) (ρ := ρ) (a := a) fun x hx => hev x (by simpa using hx)
  have hcall := hG.2 (Mt M0 ρ st.ob) w (pull (nmOf pm) ρ) _ hsim.mt_lt (nmOf_bnd hsim.gens) hargs.ren l1 l2 l3
  refine wpList_plain hg fun K hK => ?_
  unfold Oper.wp
  have e : (execOp a.eval o).run P w = .ok (.enter f (xs.map a.eval).toArray) w := by
    simp only [execOp, ho, resolve, Act.eval, Deferred.ofValue, invoke, Sem.run_bind, Sem.run_pure, Result.andThen_ok]
    rw [hG.1]
    congr 2
    apply Array.ext'
    simp
  rw [e]
  refine hcall.mono fun e w' ⟨hx, pv, he⟩ => ?_
  subst he
  obtain ⟨G, ρ', hs', _⟩ := hsim.aft (res := .any) (v := undef) hpre hB hx ⟨pull (nmOf pm) ρ, nmOf_bnd hsim.gens, fun _ _ => rfl, (fun p hp => by cases hp), (fun p hp => by cases hp), trivial⟩
  exact ⟨_, h pv, ρ', hs'⟩
end
def lookO1 (obs : Obs) : List (Nat × Nat × AO) := obs.map fun p => (p.1, 0, p.2)
def argSS : Nat → List SV → List (Nat × SV)
  | _, [] => []
  | i, s :: r => (i, s) :: argSS (i + 1) r
theorem argSS_get : ∀ (aa : List SV) (k i : Nat), lookS (argSS k aa) (k + i) = match aa[i]? with | some s => s | none => .any
  | [], k, i => rfl
  | s :: r, k, 0 => by
    show (bif Nat.beq (k + 0) k then s else _) = _
    have : Nat.beq (k + 0) k = true := by simp
    rw [this]; rfl
  | s :: r, k, i + 1 => by
    show (bif Nat.beq (k + (i + 1)) k then s else lookS (argSS (k + 1) r) (k + (i + 1))) = _
    have : Nat.beq (k + (i + 1)) k = false := by
      cases hb : Nat.beq (k + (i + 1)) k with
      | false => rfl
      | true => have := Nat.eq_of_beq_eq_true hb; omega
    rw [this]
    have := argSS_get r (k + 1) i
    rw [show k + 1 + i = k + (i + 1) from by omega] at this
    simpa using this
theorem lookO1_mem : ∀ {obs : Obs} {k g : Nat} {o : AO}, lookO (lookO1 obs) k = some (g, o) → g = 0 ∧ (k, o) ∈ obs
  | [], _, _, _, h => by cases h
  | (c, o') :: r, k, g, o, h => by
    have h1 : (bif Nat.beq k c then some (0, o') else lookO (lookO1 r) k) = some (g, o) := h
    cases hb : Nat.beq k c with
    | true =>
      rw [hb] at h1
      simp only [cond_true, Option.some.injEq, Prod.mk.injEq] at h1
      obtain rfl := Nat.eq_of_beq_eq_true hb
      obtain ⟨rfl, rfl⟩ := h1
      exact ⟨rfl, by simp⟩
    | false =>
      rw [hb] at h1
      obtain ⟨h2, h3⟩ := lookO1_mem h1
      exact ⟨h2, by simp [h3]⟩
def pins (ρ : Rho) (obs : Obs) : Rho := fun k g => bif Nat.beq g 0 && obs.any (fun p => Nat.beq p.1 k) then ρ k g else none
/-- How results of any kind are read. -/
structure ReadsS (P : Program) (fn : Func) (rs : ASt → SV → Prop) : Prop where
  out : ∀ {N : Nat} {M0 : Nat → Prop} {w0 : Base} {st : ASt} {ρ : Rho} {a : Act} {w : World} {res : SV}, SimR N M0 w0 st ρ a w → rs st res → ∃ v, (results fn a.tmps).run P w = .ok v w ∧ SRep (Mt M0 ρ st.ob) w ρ res v
def Res0S (_ : ASt) (res : SV) : Prop := res = .d (.tup [])
def Res1S (r : Nat) (st : ASt) (res : SV) : Prop := Sub (st.sl r) res
def Res2S (r r' : Nat) (st : ASt) (res : SV) : Prop := ∃ a b, res = .tp [a, b] ∧ Sub (st.sl r) a.sv ∧ Sub (st.sl r') b.sv
theorem ReadsS.r0 {P : Program} {fn : Func} (h : fn.results = #[]) : ReadsS P fn Res0S := ⟨fun hs hr => ⟨_, results_none h _ _ _, by rw [show _ = SV.d (AV.tup []) from hr]; exact .tup [] [] rfl fun j a x h => by simp at h⟩⟩
theorem ReadsS.r1 {P : Program} {fn : Func} {r : Nat} (h : fn.results = #[.tmp r]) : ReadsS P fn (Res1S r) := ⟨fun hs hr => ⟨_, results_tmp h _ _ _, hr _ _ _ _ (hs.slot r)⟩⟩
theorem ReadsS.r2 {P : Program} {fn : Func} {r r' : Nat} (h : fn.results = #[.tmp r, .tmp r']) : ReadsS P fn (Res2S r r') := ⟨fun hs ⟨a, b, e, h1, h2⟩ => ⟨_, results_tmp2 h _ _ _, by
  rw [e]
  refine ⟨[_, _], rfl, rfl, fun j c x h3 h4 => ?_⟩
  match j with
  | 0 => simp only [List.getElem?_cons_zero, Option.some.injEq] at h3 h4; subst h3 h4; exact CV.rep.1 (h1 _ _ _ _ (hs.slot r))
  | 1 => simp only [List.getElem?_cons_succ, List.getElem?_cons_zero, Option.some.injEq] at h3 h4; subst h3 h4; exact CV.rep.1 (h2 _ _ _ _ (hs.slot r'))
  | j + 2 => simp at h3⟩⟩
/-- What stands at the end of a call that was lent objects; mp tells where the new ones stand. -/
def RtO (rs : ASt → SV → Prop) (obs : Obs) : Option (Obs × SV) → Exit → ASt → Prop
  | R, .ret, st => ∃ (obs' : Obs) (res : SV) (mp : Pm), R = some (obs', res) ∧ rs st (res.ren (nmOf mp)) ∧ PreO st (nmOf mp) obs' ∧ (nodupB (obs'.map fun p => (nmOf mp p.1 0).1) && nodupB (obs'.map (·.1)) && obs.all fun p => !(lookR mp p.1).isSome) = true
  | R, .normal, st => ∃ (obs' : Obs) (res : SV) (mp : Pm), R = some (obs', res) ∧ rs st (res.ren (nmOf mp)) ∧ PreO st (nmOf mp) obs' ∧ (nodupB (obs'.map fun p => (nmOf mp p.1 0).1) && nodupB (obs'.map (·.1)) && obs.all fun p => !(lookR mp p.1).isSome) = true
  | R, .panic ch, _ => R = none ∧ ∃ pv, ch = [{ v := .iface pv (.agg #[]), recovered := false }]
  | _, _, _ => False
theorem nodupB.keys {obs : Obs} (h : nodupB (obs.map (·.1)) = true) {k : Nat} {o : AO} (hm : (k, o) ∈ obs) : lookO (lookO1 obs) k = some (0, o) := by
  induction obs with
  | nil => cases hm
  | cons x r ih =>
    obtain ⟨c, o'⟩ := x
    have hinj := nodupB.inj (f := fun p : Nat × AO => p.1) (l := (c, o') :: r) h
    show (bif Nat.beq k c then some (0, o') else lookO (lookO1 r) k) = _
    cases hb : Nat.beq k c with
    | true =>
      have e := Nat.eq_of_beq_eq_true hb
      have := hinj (k, o) hm (c, o') (by simp) e
      simp only [Prod.mk.injEq] at this
      simp [this.2]
    | false =>
      simp only [cond_false]
      refine ih ?_ ?_
      · simp only [List.map_cons, nodupB, Bool.and_eq_true] at h; exact h.2
      · rcases List.mem_cons.1 hm with e | hm
        · simp only [Prod.mk.injEq] at e; rw [e.1] at hb; simp at hb
        · exact hm
theorem GCall_enter {P : Program} {f : FuncId} {fn : Func} {c : Code} {N : Nat} {ins : List SV} {obs : Obs} {R : Option (Obs × SV)} {rs : ASt → SV → Prop} (hcf : ∀ (vs : Array Value) (w : World), (callFunc f vs).run P w = .ok (.enter f vs) w) (hf : P.funcs[f]? = some fn) (hb : fn.body = some c) (hN : fn.ntmps = N) (hr : ReadsS P fn rs) (hn : ins.length ≤ N)
    (h : (∀ a, SV.d a ∈ ins → okA a) → (∀ k T cs a, (k, AO.box T cs) ∈ obs → SV.d a ∈ cs → okA a) → ∀ M0 w0, Aw P N M0 w0 c (RtO rs obs R) (mk (argSS 0 ins) (lookO1 obs))) : GCall P f ins obs R := ⟨hcf, fun M w ρ vs hM hbnd ha hobs hfps hap => by
  have hokI : ∀ a, SV.d a ∈ ins → okA a := fun a hm => by
    obtain ⟨j, hj, e⟩ := List.getElem_of_mem hm
    have hj' : j < vs.length := by rw [ha.1]; exact hj
    exact ⟨M, w, vs[j], ha.2 j (.d a) _ (by rw [List.getElem?_eq_getElem hj, e]) (List.getElem?_eq_getElem hj')⟩
  have hokB : ∀ k T cs a, (k, AO.box T cs) ∈ obs → SV.d a ∈ cs → okA a := fun k T cs a hm ha => by
    obtain ⟨y, _, b, xs, rfl, _, _, hsz, hcs⟩ := hobs _ hm
    obtain ⟨j, hj, e⟩ := List.getElem_of_mem ha
    have hj' : j < xs.size := by rw [hsz]; exact hj
    exact ⟨M, w, xs[j], (hcs j (.d a) _ (by rw [List.getElem?_eq_getElem hj, e]) (Array.getElem?_eq_getElem hj')).1⟩
  have hMt : ∀ b, Mt M ρ (mk (argSS 0 ins) (lookO1 obs)).ob b → M b := fun b hb => by
    rcases hb with hb | ⟨k, g, o, x, h1, h2, h3⟩
    · exact hb
    · obtain ⟨rfl, hm⟩ := lookO1_mem h1
      exact hfps b ⟨_, hm, x, h2, h3⟩
  have hsim : SimR N M ⟨w, fps ρ obs, [], pins ρ obs⟩ (mk (argSS 0 ins) (lookO1 obs)) ρ { tmps := vs.toArray ++ Array.replicate (N - vs.toArray.size) undef, defers := [] } w := {
    size := by have := ha.1; simp; omega
    defers := rfl
    slot := fun i => by
      have e := argSS_get ins 0 i
      rw [Nat.zero_add] at e
      show SRep _ _ _ (lookS (argSS 0 ins) i) _
      rw [e]
      cases h : ins[i]? with
      | none => trivial
      | some s =>
        have hi : i < vs.length := by rw [ha.1]; exact (List.getElem?_eq_some_iff.1 h).1
        show SRep _ _ _ s ((vs.toArray ++ Array.replicate (N - vs.toArray.size) undef).getD i undef)
        have e2 : (vs.toArray ++ Array.replicate (N - vs.toArray.size) undef).getD i undef = vs[i] := by
          simp [Array.getD_eq_getD_getElem?, Array.getElem?_append, hi]
        rw [e2]
        exact (ha.2 i s vs[i] h (by simp [hi])).mono (Known.sub hMt)
    obj := fun k g o h => by
      obtain ⟨rfl, hm⟩ := lookO1_mem h
      obtain ⟨y, h1, h2⟩ := hobs _ hm
      exact ⟨y, h1, (h2.mono (Known.sub hMt) fun _ _ => rfl).base fun b hb => .inr ⟨_, hm, y, h1, hb⟩⟩
    apart := fun k g o k' g' o' x x' b h h' h1 h2 h3 h4 => by
      obtain ⟨rfl, hm⟩ := lookO1_mem h
      obtain ⟨rfl, hm'⟩ := lookO1_mem h'
      exact hap _ hm _ hm' x x' b h1 h2 h3 h4
    gens := hbnd
    base := hM
    ext := ⟨rfl, rfl, rfl, Nat.le_refl _, fun _ _ _ => rfl⟩
    pin := fun k g v hv => by
      have : (bif Nat.beq g 0 && obs.any (fun p => Nat.beq p.1 k) then ρ k g else none) = some v := hv
      revert this
      cases (Nat.beq g 0 && obs.any (fun p => Nat.beq p.1 k)) with
      | true => exact id
      | false => intro h; cases h }
  refine calls_of_wp hf hb ?_
  rw [hN]
  refine wp_mono ((h hokI hokB M ⟨w, fps ρ obs, [], pins ρ obs⟩).out _ _ ⟨_, hsim⟩) fun e a' w' ⟨st, h1, ρF, h2⟩ => ?_
  have hext : ExtL ⟨w, fps ρ obs, [], fun _ _ => none⟩ w' := ⟨h2.ext.os, h2.ext.tape, h2.ext.output, h2.ext.size, h2.ext.block⟩
  have key : (∃ (obs' : Obs) (res : SV) (mp : Pm), R = some (obs', res) ∧ rs st (res.ren (nmOf mp)) ∧ PreO st (nmOf mp) obs' ∧ (nodupB (obs'.map fun p => (nmOf mp p.1 0).1) && nodupB (obs'.map (·.1)) && obs.all fun p => !(lookR mp p.1).isSome) = true) → a'.defers = [] ∧ ∃ v, (results fn a'.tmps).run P w' = .ok v w' ∧ (ExtL ⟨w, fps ρ obs, [], fun _ _ => none⟩ w' ∧ GPost M w ρ obs w' (.returned v) R) := fun ⟨obs', res, mp, hR, hrs, hpo, hchk⟩ => by
    subst hR
    simp only [Bool.and_eq_true] at hchk
    obtain ⟨⟨c1, c2⟩, c3⟩ := hchk
    obtain ⟨v, k1, k2⟩ := hr.out h2 hrs
    refine ⟨h2.defers, v, k1, hext, v, rfl, pull (nmOf mp) ρF, nmOf_bnd h2.gens, fun p hp => ?_, fun p hp => ?_, fun p hp q hq x x' b h1 h2' h3 h4 => ?_, ?_⟩
    · have h5 := List.all_eq_true.1 c3 p hp
      have h6 : lookR mp p.1 = none := by simpa using h5
      have e : nmOf mp p.1 0 = (p.1, 0) := by simp [nmOf, h6]
      show ρF (nmOf mp p.1 0).1 (nmOf mp p.1 0).2 = _
      rw [e]
      obtain ⟨y, h7, _⟩ := hobs p hp
      rw [h7]
      refine h2.pin _ _ _ ?_
      show (bif Nat.beq 0 0 && obs.any (fun q => Nat.beq q.1 p.1) then ρ p.1 0 else none) = some y
      have : obs.any (fun q => Nat.beq q.1 p.1) = true := List.any_eq_true.2 ⟨p, hp, by simp⟩
      rw [this]; exact h7
    · obtain ⟨y, h5, h6⟩ := h2.obj _ _ _ (hpo.get p hp)
      refine ⟨y, h5, ((ORep.ren.1 h6).mono (Known.sub fun b hb => ?_) fun _ _ => rfl).base fun b hb => (h6.blk_lt (fpO.ren.2 hb)).1⟩
      rcases hb with hb | ⟨q, hq, z, h7, h8⟩
      · exact .inl hb
      · exact .inr ⟨_, _, _, z, hpo.get q hq, h7, fpO.ren.2 h8⟩
    · have := h2.apart _ _ _ _ _ _ x x' b (hpo.get p hp) (hpo.get q hq) h1 h2' (fpO.ren.2 h3) (fpO.ren.2 h4)
      rw [nodupB.inj c1 p hp q hq this]
    · refine (SRep.ren.1 k2).mono (Known.sub fun b hb => ?_)
      rcases hb with hb | ⟨q, hq, z, h7, h8⟩
      · exact .inl hb
      · exact .inr ⟨_, _, _, z, hpo.get q hq, h7, fpO.ren.2 h8⟩
  cases e with
  | normal => exact key h1
  | ret => exact key h1
  | panic ch =>
    obtain ⟨rfl, pv, rfl⟩ := h1
    exact ⟨h2.defers, hext, pv, rfl⟩
  | _ => exact h1.elim⟩
end Go.Proofs.Ytlcahhlghjbnkaa.A
namespace Go.Proofs.Ytlcahhlghjbnkaa.A
open Go Go.RowKit
section
variable {P : Program} {N : Nat} {M0 : Nat → Prop} {w0 : Base} {ops : Array Oper} {Q : Exit → ASt → Prop} {o : Oper} {l : List Oper} {st : ASt}
/-- What operands hold, told as what a closure may hold. -/
def HoldOk (st : ASt) : List Operand → List CV → Prop
  | [], [] => True
  | x :: xs, c :: cs => Sub (st.ev x) c.sv ∧ HoldOk st xs cs
  | _, _ => False
theorem HoldOk.rep {M : Nat → Prop} {w : World} {ρ : Rho} {a : Act} : ∀ {xs : List Operand} {cs : List CV}, HoldOk st xs cs → (∀ x ∈ xs, SRep M w ρ (st.ev x) (a.eval x)) → CReps M w ρ cs (xs.map a.eval)
  | [], [], _, _ => ⟨rfl, fun j a x h => by simp at h⟩
  | x :: xs, b :: aa, h, hs => by
    have ih := HoldOk.rep (a := a) h.2 fun y hy => hs y (by simp [hy])
    refine ⟨by simp [ih.1], fun j c y h1 h2 => ?_⟩
    cases j with
    | zero =>
      simp at h1 h2
      subst h1 h2
      exact CV.rep.1 (h.1 _ _ _ _ (hs x (by simp)))
    | succ j => exact ih.2 j c y (by simpa using h1) (by simpa using h2)
  | [], _ :: _, h, _ => h.elim
  | _ :: _, [], h, _ => h.elim
theorem Pu_makeFuncS {f : FuncId} {ys xs : List Operand} (first caps : List CV) (ho : o.op = .makeFunc (.func f) ys.toArray xs.toArray) (hf : HoldOk st ys first) (ha : HoldOk st xs caps) : Pu P st o (.fnb f first caps) := Pu_q fun B M ρ w a h2 _ => by
  have h3 := hf.rep (a := a) fun x hx => h2 x (by simp [opsOf, ho, Op.operands]; exact .inl hx)
  have h4 := ha.rep (a := a) fun x hx => h2 x (by simp [opsOf, ho, Op.operands]; exact .inr hx)
  refine ⟨.func (.func f) (ys.map a.eval).toArray (xs.map a.eval).toArray, ?_, _, _, rfl, h3, h4⟩
  simp only [execOp, ho, Instr.makeFunc, Sem.run_bind, Sem.run_pure, Result.andThen_ok]
  simp
theorem rows_flat {M : Nat → Prop} {w : World} {n : Nat} : ∀ {rows : List (List AV)} {vals : List (List Value)} {q : Nat} {a : AV}, Rows M w n vals rows → rows.flatten[q]? = some a → ∃ x, vals.flatten[q]? = some x ∧ Rep M w a x ∧ x.oneCell' = true
  | [], _, q, a, _, h => by simp at h
  | r :: rs, [], q, a, hr, _ => by have := hr.1; simp at this
  | r :: rs, v :: vs, q, a, hr, h => by
    obtain ⟨h1, h2, h3⟩ := hr.2 0 r v rfl rfl
    simp only [List.flatten_cons] at h ⊢
    rcases Nat.lt_or_ge q r.length with hq | hq
    · rw [List.getElem?_append_left hq] at h
      have hqv : q < v.length := by omega
      rw [List.getElem?_append_left hqv]
      obtain ⟨k1, k2⟩ := h3 q a v[q] h (by simp [hqv])
      exact ⟨v[q], by simp [hqv], k1, k2⟩
    · rw [List.getElem?_append_right hq] at h
      rw [List.getElem?_append_right (by omega), show v.length = r.length from by omega]
      refine rows_flat (rows := rs) ⟨by have := hr.1; simpa using this, fun i r' v' hi hv => hr.2 (i + 1) r' v' (by simpa using hi) (by simpa using hv)⟩ h
theorem rows_of_flat {M : Nat → Prop} {w : World} {n : Nat} : ∀ {rows : List (List AV)} {L : List Value}, (∀ r ∈ rows, r.length = n) → L.length = rows.length * n → (∀ (q : Nat) (a : AV) (x : Value), rows.flatten[q]? = some a → L[q]? = some x → Rep M w a x ∧ x.oneCell' = true) → ∃ vals, vals.flatten = L ∧ Rows M w n vals rows
  | [], L, _, hl, _ => ⟨[], by simp at hl; simp [hl], rfl, fun i r v h => by simp at h⟩
  | r :: rs, L, hn, hl, h => by
    have hrn := hn r (by simp)
    simp only [List.length_cons, Nat.add_mul, Nat.one_mul] at hl
    obtain ⟨vals, h1, h2⟩ := rows_of_flat (rows := rs) (L := L.drop n) (M := M) (w := w) (fun r' hr' => hn r' (by simp [hr'])) (by simp; omega) (fun q a x hq hx => by
      rw [List.getElem?_drop] at hx
      refine h (n + q) a x ?_ hx
      simp only [List.flatten_cons]
      rw [List.getElem?_append_right (by omega), show n + q - r.length = q from by omega]; exact hq)
    refine ⟨L.take n :: vals, by simp [h1], by simp [h2.1], fun i r' v hi hv => ?_⟩
    cases i with
    | zero =>
      simp at hi hv
      subst hi hv
      refine ⟨hrn, by simp; omega, fun j a x hj hx => ?_⟩
      have hjl : j < r.length := (List.getElem?_eq_some_iff.1 hj).1
      rw [List.getElem?_take, if_pos (by omega)] at hx
      exact h j a x (by simp only [List.flatten_cons]; rw [List.getElem?_append_left hjl]; exact hj) hx
    | succ i => exact h2.2 i r' v (by simpa using hi) (by simpa using hv)
theorem Pu_lenOw {x : Operand} {t e T : TypeId} {k g n m : Nat} {rows : List (List AV)} (ho : o.op = .call ⟨.builtin .len, #[x], #[t]⟩) (ht : P.underlying t = some (.slice e)) (hx : st.ev x = .ow k g) (hob : st.ob k = some (g, .arr T n rows)) (hm : rows.length = m) : Pu P st o (.d (.v (.int .i64 m))) := Pu_q fun B M ρ w a h2 h3 => by
  subst hm
  have hm := h2 x (mem_call ho x (by simp))
  rw [hx] at hm
  obtain ⟨v, h4, vals, h5, h6, ⟨va, vc, rfl⟩, hl, _⟩ := h3 k g _ hob
  have hy : a.eval x = .slice va rows.length vc := by
    have := hm.1
    rw [h4] at this
    exact (Option.some.inj this).symm
  refine ⟨.int .i64 rows.length, ?_, .v _ ?_⟩
  · simp [execOp, ho, resolve, invoke, builtin, Builtin.len_, hy, run_underlying ht, Sem.run, goInt]
  · unfold maxI at hl; simp [vok, inI]; omega
theorem Pu_indexOw {t e T : TypeId} {x i : Operand} {k g n j : Nat} {z : Int} {rows : List (List AV)} (ho : o.op = .indexAddr t x i) (ht : P.underlying t = some (.slice e)) (hz : ∀ w, (sizeOf e).run P w = .ok n w) (hx : st.ev x = .ow k g) (hi : st.ev i = .d (.v (.int .i64 z))) (hob : st.ob k = some (g, .arr T n rows)) (hk : z = j) (hj : j < rows.length) : Pu P st o (.bx k g (j * n)) := Pu_q fun B M ρ w a h2 h3 => by
  have m : x ∈ opsOf o ∧ i ∈ opsOf o := by simp [opsOf, ho, Op.operands]
  obtain ⟨e2, _⟩ := ev_v h2 m.2 hi
  have hm := h2 x m.1
  rw [hx] at hm
  obtain ⟨v, h4, vals, hown, h6, _, hl, _⟩ := h3 k g _ hob
  have hy : a.eval x = v := by
    have := hm.1
    rw [h4] at this
    exact (Option.some.inj this).symm
  subst hk
  rcases hown.2 with ⟨rfl, h0⟩ | ⟨b, cap, cur, rfl, _, hg, hnc, _⟩
  · omega
  · refine ⟨.pointer (some ⟨b, j * n, none⟩), ?_, _, b, h4, rfl, rfl⟩
    simp only [execOp, ho, hy, e2, Instr.indexAt, Instr.sureAddr, Sem.run_bind, asIntOf, Sem.run_pure, Result.andThen_ok, run_underlying ht]
    rw [if_pos ⟨by omega, by omega⟩]
    simp only [Sem.run_bind, hz, Result.andThen_ok, Int.toNat_natCast, add_addr, Sem.run_pure, Nat.zero_add]
theorem arr_at {B : Base} {M : Nat → Prop} {w : World} {ρ : Rho} {h : Value} {T : TypeId} {n b : Nat} {rows : List (List AV)} (hO : ORep B M w ρ h (.arr T n rows)) (hb : blk h = some b) : ∃ cap cur vals, h = .slice (some ⟨b, 0, none⟩) rows.length cap ∧ w.heap[b]? = some (.cells cur T (0, 0)) ∧ rows.length ≤ cap ∧ cap ≤ maxLen ∧ cur.size = cap * n ∧ cur.toList.take (rows.length * n) = vals.flatten ∧ Rows M w n vals rows ∧ rows.length ≤ maxI ∧ (B.w.heap.size ≤ b ∨ B.l b) := by
  obtain ⟨vals, hown, h6, _, hl, hlb⟩ := hO
  rcases hown.2 with ⟨rfl, h0⟩ | ⟨c, cap, cur, rfl, _, hg, hnc, hcm, hsz, htk⟩
  · simp [blk] at hb
  · simp only [blk, Option.some.injEq] at hb
    subst hb
    exact ⟨cap, cur, vals, rfl, hg, hnc, hcm, hsz, htk, h6, hl, hlb c rfl⟩
theorem Pu_loadArr {t T : TypeId} {x : Operand} {k g off n : Nat} {rows : List (List AV)} {c : AV} (ho : o.op = .load t x) (ht : ∀ w, (isAgg t).run P w = .ok false w) (hx : st.ev x = .bx k g off) (hob : st.ob k = some (g, .arr T n rows)) (hs : rows.flatten[off]? = some c) : Pu P st o (.d c) := Pu_q fun B M ρ w a h2 h3 => by
  have hm := h2 x (by simp [opsOf, ho, Op.operands])
  rw [hx] at hm
  obtain ⟨y, b, h4, h5, h6⟩ := hm
  obtain ⟨y', h7, hO⟩ := h3 k g _ hob
  rw [h4] at h7; cases h7
  obtain ⟨cap, cur, vals, rfl, hg, hnc, hcm, hsz, htk, hr, hl, _⟩ := arr_at hO h5
  obtain ⟨v, h8, h9, h10⟩ := rows_flat hr hs
  have hv : cur[off]? = some v := by
    rw [← htk, List.getElem?_take] at h8
    split at h8
    · simpa using h8
    · cases h8
  refine ⟨v, ?_, h9⟩
  have hc : w.cell? ⟨b, off, none⟩ = some v := by simp [World.cell?, hg, hv]
  simp [execOp, ho, h6, Instr.loadAt, Instr.sureAddr, loadVar, ht, load, Sem.run, hc, Sem.run_bind]
/-- Cells of a row's elements are written. -/
theorem store_arr {t T : TypeId} {x y : Operand} {k g off n m : Nat} {rows rows' : List (List AV)} {r : List AV} (hg : o.guard = none) (hd : o.dst = none) (ho : o.op = .store t x y) (hz : ∀ w, (sizeOf t).run P w = .ok m w) {a : Act} {w : World} {ρ : Rho} (hsim : SimR N M0 w0 st ρ a w) (h6 : ∃ y b, ρ k g = some y ∧ blk y = some b ∧ a.eval x = .pointer (some ⟨b, off, none⟩)) (hob : st.ob k = some (g, .arr T n rows))
    (hr : Cells (Mt M0 ρ st.ob) w r (a.eval y).cells.toList) (hn : r.length = m) (hoff : off + m ≤ rows.length * n) (hlen : rows'.length = rows.length) (hun : ∀ q ∈ rows', q.length = n) (hfl : rows'.flatten = rows.flatten.take off ++ r ++ rows.flatten.drop (off + m))
    (h : Al P N M0 w0 ops Q l (st.put k g (.arr T n rows'))) : wpList P ops (QL N M0 w0 Q) (o :: l) a w := by
  obtain ⟨u, b, h4, h5, h6⟩ := h6
  obtain ⟨u', h7, hO⟩ := hsim.obj k g _ hob
  rw [h4] at h7; cases h7
  obtain ⟨cap, cur, vals, rfl, hgb, hnc, hcm, hsz, htk, hrw, hl, hlb⟩ := arr_at hO h5
  have hcn : rows.length * n ≤ cap * n := Nat.mul_le_mul_right _ hnc
  have hvl : vals.flatten.length = rows.length * n := by rw [← htk]; simp; omega
  have hrn : ∀ q ∈ rows, q.length = n := fun q hq => by
    obtain ⟨i, hi, rfl⟩ := List.getElem_of_mem hq
    have hi' : i < vals.length := by rw [hrw.1]; exact hi
    exact (hrw.2 i _ vals[i] (by simp [hi]) (by simp [hi'])).1
  have hfr := flat_len hrn
  have hul : (a.eval y).cells.toList.length = m := by rw [hr.1, hn]
  obtain ⟨w', vs', k1, k2, k3, k4, k5, k6, k7, k8, k9⟩ := run_storeRow (P := P) b off T (a.eval y).cells.toList 0 w cur hgb (by omega) (fun v hv => by
    obtain ⟨j, hj, rfl⟩ := List.getElem_of_mem hv
    have hj' : j < r.length := by rw [← hr.1]; exact hj
    exact (hr.2 j r[j] _ (by simp [hj']) (by rw [List.getElem?_eq_getElem hj])).2)
  have hs2 := hsim.mod (w' := w') hob h4 ⟨k7, k8, k9⟩ (by omega) (fun c hc' hne => k5 c (fun e => hne (by simp [blk, e]))) (o' := .arr T n rows') (fun M' hK _ => by
    obtain ⟨vals', hv1, hv2⟩ := rows_of_flat (rows := rows') (L := vs'.toList.take (rows.length * n)) (M := M') (w := w') hun (by rw [hlen]; simp; omega) (fun q c z hq hz' => by
      rw [hfl] at hq
      rw [List.getElem?_take] at hz'
      split at hz'
      · rename_i hqn
        have hz2 : vs'[q]? = some z := by simpa using hz'
        rw [k4 q, Nat.add_zero] at hz2
        by_cases e1 : q < off
        · rw [List.append_assoc, List.getElem?_append_left (by rw [List.length_take]; omega), List.getElem?_take, if_pos e1] at hq
          rw [if_neg (by omega)] at hz2
          obtain ⟨z', k10, k11, k12⟩ := rows_flat hrw hq
          rw [← htk, List.getElem?_take, if_pos hqn] at k10
          have : cur[q]? = some z' := by simpa using k10
          rw [hz2] at this; cases this
          exact ⟨k11.mono hK, k12⟩
        · by_cases e2 : q < off + m
          · rw [List.getElem?_append_left (by rw [List.length_append, List.length_take]; omega), List.getElem?_append_right (by rw [List.length_take]; omega)] at hq
            simp only [List.length_take, Nat.min_eq_left (show off ≤ rows.flatten.length by omega)] at hq
            rw [if_pos (by omega)] at hz2
            obtain ⟨k11, k12⟩ := hr.2 _ c z hq hz2
            exact ⟨k11.mono hK, k12⟩
          · rw [List.getElem?_append_right (by rw [List.length_append, List.length_take]; omega)] at hq
            simp only [List.length_append, List.length_take, Nat.min_eq_left (show off ≤ rows.flatten.length by omega), List.getElem?_drop] at hq
            rw [show off + m + (q - (off + r.length)) = q from by omega] at hq
            rw [if_neg (by omega)] at hz2
            obtain ⟨z', k10, k11, k12⟩ := rows_flat hrw hq
            rw [← htk, List.getElem?_take, if_pos hqn] at k10
            have : cur[q]? = some z' := by simpa using k10
            rw [hz2] at this; cases this
            exact ⟨k11.mono hK, k12⟩
      · cases hz')
    exact ⟨vals', ⟨by rw [hv1, hlen]; simp; omega, .inr ⟨b, cap, vs', by rw [hlen], Nat.zero_le _, k2, by rw [hlen]; exact hnc, hcm, by rw [k3]; exact hsz, by rw [hv1, hlen]⟩⟩, hv2, ⟨_, cap, by rw [hlen]⟩, by rw [hlen]; exact hl, fun c hc => by simp only [blk, Option.some.injEq] at hc; subst hc; exact hlb⟩)
  refine wpList_plain hg fun K hK => wp_upon ?_
  have e : (execOp a.eval o).run P w = .ok .skip w' := by
    simp only [execOp, ho, h6, Instr.storeAt, Instr.sureAddr, storeVar, Sem.run_bind, Sem.run_pure, Result.andThen_ok, hz]
    rw [if_neg (by have : (a.eval y).cells.size = m := by rw [← hul]; simp
                   simp; omega)]
    simp only [Sem.run_bind, Sem.run_pure, Result.andThen_ok, k1]
  rw [e]
  refine hK _ _ (h.out _ _ ⟨ρ, ?_⟩)
  rw [hd]
  exact hs2
theorem Al_storeArr {t T : TypeId} {x y : Operand} {k g off n m : Nat} {rows : List (List AV)} {c : AV} (rows' : List (List AV)) (ho : o.op = .store t x y) (hg : o.guard = none) (hd : o.dst = none) (hc : conB o = true) (hz : ∀ w, (sizeOf t).run P w = .ok m w) (hx : st.ev x = .bx k g off) (hob : st.ob k = some (g, .arr T n rows)) (hy : st.ev y = .d c) (hcb : cellB c = true) (hn : (cellsA c).length = m) (hoff : off + m ≤ rows.length * n) (hlen : rows'.length = rows.length) (hun : ∀ q ∈ rows', q.length = n) (hfl : rows'.flatten = rows.flatten.take off ++ cellsA c ++ rows.flatten.drop (off + m))
    (h : Al P N M0 w0 ops Q l (st.put k g (.arr T n rows'))) : Al P N M0 w0 ops Q (o :: l) st := by
  refine ⟨?_⟩
  rintro a w ⟨ρ, hsim⟩
  have hmem : x ∈ opsOf o ∧ y ∈ opsOf o := by simp [opsOf, ho, Op.operands]
  have hmx := hsim.ev hc x hmem.1
  have hmy := hsim.ev hc y hmem.2
  rw [hx] at hmx
  rw [hy] at hmy
  exact store_arr hg hd ho hz hsim hmx hob (Rep.cells hmy hcb) hn hoff hlen hun hfl h
/-- A cell that holds nil is a row of the call's own. -/
theorem le_owncell {k k2 g j : Nat} {T e : TypeId} {cs : List SV} {n : Nat} (hkk : Nat.beq k k2 = false) (hob : st.ob k = some (g, .box T cs)) (hj : cs[j]? = some (.d (.v (.slice none 0 0)))) {X : Act → World → Prop} (h : ∀ g2, ∀ a w, Sim N M0 w0 ((st.put k2 g2 (.arr e n [])).put k g (.box T (cs.set j (.ow k2 g2)))) a w → X a w) : ∀ a w, Sim N M0 w0 st a w → X a w := by
  rintro a w ⟨ρ, hs⟩
  obtain ⟨g', ρ', h1, h2⟩ := hs.upd (w' := w) k2 ⟨rfl, rfl, rfl⟩ (Nat.le_refl _) (fun _ _ _ => rfl) (x' := .slice none 0 0) (o' := .arr e n []) (fun b hb => by simp [blk] at hb)
    (fun M' ρ' _ _ => ⟨[], World.ownsRow_nil w _ e n, ⟨rfl, fun i r v h => by simp at h⟩, ⟨none, 0, rfl⟩, by simp, fun b hb => by simp [blk] at hb⟩)
  have hob' : (st.put k2 g' (.arr e n [])).ob k = some (g, .box T cs) := by
    show (bif Nat.beq k k2 then _ else st.ob k) = _
    rw [hkk]; exact hob
  obtain ⟨y, hy, b, vs, rfl, hB, hh, hsz, hcs⟩ := h1.obj k g _ hob'
  refine h g' a w ⟨ρ', h1.mod hob' hy ⟨rfl, rfl, rfl⟩ (Nat.le_refl _) (fun _ _ _ => rfl) (fun M' hK _ => ⟨b, vs, rfl, hB, hh, by rw [List.length_set]; exact hsz, fun i q z hq hz => ?_⟩)⟩
  rw [List.getElem?_set] at hq
  by_cases e : j = i
  · subst e
    rw [if_pos rfl] at hq
    split at hq
    · simp only [Option.some.injEq] at hq
      subst hq
      have := (hcs j _ z hj hz).1
      obtain rfl := (rep_v this).1
      exact ⟨⟨h2, rfl⟩, rfl⟩
    · cases hq
  · rw [if_neg e] at hq
    exact ⟨(hcs i q z hq hz).1.mono hK, (hcs i q z hq hz).2⟩
theorem Aw_owncell {c : Code} {k k2 g : Nat} (j : Nat) {T e : TypeId} {cs : List SV} {n : Nat} (hkk : Nat.beq k k2 = false) (hob : st.ob k = some (g, .box T cs)) (hj : cs[j]? = some (.d (.v (.slice none 0 0)))) (h : ∀ g2, Aw P N M0 w0 c Q ((st.put k2 g2 (.arr e n [])).put k g (.box T (cs.set j (.ow k2 g2))))) : Aw P N M0 w0 c Q st := ⟨le_owncell hkk hob hj fun g2 => (h g2).out⟩
/-- A row that lies in a variable's cell, told as data from here on. -/
theorem le_frzc {k g kb gb : Nat} (j : Nat) {T Tb : TypeId} {n : Nat} {rows : List (List AV)} {cs : List SV} (hnl : ∀ (a : Act) (w : World) (ρ : Rho), SimR N M0 w0 st ρ a w → ∀ v b, ρ k g = some v → blk v = some b → ¬ w0.l b) (is : List Nat) (hob : st.ob k = some (g, .arr T n rows)) (hkk : Nat.beq kb k = false) (hobb : st.ob kb = some (gb, .box Tb cs)) (hj : cs[j]? = some (.ow k g)) (his : AllOw st k g is) : Le N M0 w0 st ((st.frz k is (.sl n rows)).put kb gb (.box Tb (cs.set j (.d (.sl n rows))))) := by
  rintro a w ⟨ρ, hs⟩
  obtain ⟨h1, v, hv, hr⟩ := hs.frz (hnl a w ρ hs) is hob his
  have hob' : (st.frz k is (.sl n rows)).ob kb = some (gb, .box Tb cs) := by
    show (bif Nat.beq kb k then none else st.ob kb) = _
    rw [hkk]; exact hobb
  obtain ⟨y, hy, b, vs, rfl, hB, hh, hsz, hcs⟩ := h1.obj kb gb _ hob'
  refine ⟨ρ, h1.mod hob' hy ⟨rfl, rfl, rfl⟩ (Nat.le_refl _) (fun _ _ _ => rfl) (fun M' hK _ => ⟨b, vs, rfl, hB, hh, by rw [List.length_set]; exact hsz, fun i q z hq hz => ?_⟩)⟩
  rw [List.getElem?_set] at hq
  by_cases e : j = i
  · subst e
    rw [if_pos rfl] at hq
    split at hq
    · simp only [Option.some.injEq] at hq
      subst hq
      have h5 := hcs j _ z hj hz
      have h6 := h5.1.1
      rw [hv] at h6; cases h6
      exact ⟨hr.mono hK, h5.2⟩
    · cases hq
  · rw [if_neg e] at hq
    exact ⟨(hcs i q z hq hz).1.mono hK, (hcs i q z hq hz).2⟩
theorem Aw_frzc {c : Code} {k g kb gb : Nat} (j : Nat) {T Tb : TypeId} {n : Nat} {rows : List (List AV)} {cs : List SV} (hnl : ∀ b, ¬ w0.l b) (is : List Nat) (hob : st.ob k = some (g, .arr T n rows)) (hkk : Nat.beq kb k = false) (hobb : st.ob kb = some (gb, .box Tb cs)) (hj : cs[j]? = some (.ow k g)) (his : AllOw st k g is) (h : Aw P N M0 w0 c Q ((st.frz k is (.sl n rows)).put kb gb (.box Tb (cs.set j (.d (.sl n rows)))))) : Aw P N M0 w0 c Q st := Aw_le (le_frzc j (fun _ _ _ _ _ b _ _ => hnl b) is hob hkk hobb hj his) h
/-- What was lent is a variable, which stands under the key 1000: no other object lies there. -/
theorem lent_apart {k g : Nat} {T T1 : TypeId} {n : Nat} {rows : List (List AV)} {cs1 : List SV} (hlent : ∀ b, w0.l b → w0.p 1000 0 = some (.pointer (some ⟨b, 0, none⟩))) (hob : st.ob k = some (g, .arr T n rows)) (hk : Nat.beq k 1000 = false) (h1000 : st.ob 1000 = some (0, .box T1 cs1)) (a : Act) (w : World) (ρ : Rho) (hs : SimR N M0 w0 st ρ a w) : ∀ v b, ρ k g = some v → blk v = some b → ¬ w0.l b := fun v b hv hb hl => by
  have h1 := hs.pin _ _ _ (hlent b hl)
  have := hs.apart k g _ 1000 0 _ v _ b hob h1000 hv h1 hb rfl
  subst this
  simp at hk
theorem Aw_frzM {c : Code} {k g : Nat} {T T1 : TypeId} {n : Nat} {rows : List (List AV)} {cs1 : List SV} (hlent : ∀ b, w0.l b → w0.p 1000 0 = some (.pointer (some ⟨b, 0, none⟩))) (is : List Nat) (hob : st.ob k = some (g, .arr T n rows)) (hk : Nat.beq k 1000 = false) (h1000 : st.ob 1000 = some (0, .box T1 cs1)) (his : AllOw st k g is) (h : Aw P N M0 w0 c Q (st.frz k is (.sl n rows))) : Aw P N M0 w0 c Q st := Aw_le (fun a w ⟨ρ, hs⟩ => ⟨ρ, (hs.frz (lent_apart hlent hob hk h1000 a w ρ hs) is hob his).1⟩) h
/-- A variable, of which less is told. -/
def SubL : List SV → List SV → Prop
  | [], [] => True
  | s :: r, s' :: r' => Sub s s' ∧ SubL r r'
  | _, _ => False
theorem SubL.get : ∀ {cs cs' : List SV}, SubL cs cs' → cs.length = cs'.length ∧ ∀ (j : Nat) (s' : SV), cs'[j]? = some s' → ∃ s, cs[j]? = some s ∧ Sub s s'
  | [], [], _ => ⟨rfl, fun j s' h => by simp at h⟩
  | s :: r, s' :: r', h => by
    obtain ⟨h1, h2⟩ := SubL.get h.2
    refine ⟨by simp [h1], fun j t ht => ?_⟩
    cases j with
    | zero => simp at ht; subst ht; exact ⟨s, rfl, h.1⟩
    | succ j => obtain ⟨d, h3, h4⟩ := h2 j t (by simpa using ht); exact ⟨d, by simpa using h3, h4⟩
  | [], _ :: _, h => h.elim
  | _ :: _, [], h => h.elim
theorem le_box {k g : Nat} {T : TypeId} {cs : List SV} (cs' : List SV) (hob : st.ob k = some (g, .box T cs)) (h : SubL cs cs') : Le N M0 w0 st (st.put k g (.box T cs')) := by
  rintro a w ⟨ρ, hs⟩
  obtain ⟨h1, h2⟩ := h.get
  obtain ⟨y, hy, b, vs, rfl, hB, hh, hsz, hcs⟩ := hs.obj k g _ hob
  refine ⟨ρ, hs.mod hob hy ⟨rfl, rfl, rfl⟩ (Nat.le_refl _) (fun _ _ _ => rfl) (fun M' hK _ => ⟨b, vs, rfl, hB, hh, by omega, fun j s' z hj hz => ?_⟩)⟩
  obtain ⟨s, h3, h4⟩ := h2 j s' hj
  exact ⟨h4 _ _ _ _ ((hcs j s z h3 hz).1.mono hK), (hcs j s z h3 hz).2⟩
theorem Aw_boxle {c : Code} {k g : Nat} {T : TypeId} {cs : List SV} (cs' : List SV) (hob : st.ob k = some (g, .box T cs)) (h : SubL cs cs') (hc : Aw P N M0 w0 c Q (st.put k g (.box T cs'))) : Aw P N M0 w0 c Q st := Aw_le (le_box cs' hob h) hc
end
end Go.Proofs.Ytlcahhlghjbnkaa.A
namespace Go.Proofs.Ytlcahhlghjbnkaa.A
open Go Go.RowKit
/-- A region under way: what stands where some of its operations are done. -/
structure Ad (P : Program) (N : Nat) (M0 : Nat → Prop) (w0 : Base) (ops : Array Oper) (Q : Exit → ASt → Prop) (fuel : Nat) (listed : Array Bool) (st : ASt) : Prop where
  out : ∀ a w, Sim N M0 w0 st a w → wpAny P .any ops (QL N M0 w0 Q) fuel listed a w
/-- An operation whose value hangs on no memory. -/
def PuI (P : Program) (st : ASt) (o : Oper) (s : SV) : Prop :=
  ∀ (M : Nat → Prop) (ρ : Rho) (w : World) (a : Act), (∀ x ∈ opsOf o, SRep M w ρ (st.ev x) (a.eval x)) → ∃ v, SRep M w ρ s v ∧ ∀ w2, (execOp a.eval o).run P w2 = .ok (.value v) w2
/-- What a panic leaves says nothing of the slot d. -/
def PanicFree (Q : Exit → ASt → Prop) (d : Nat) : Prop := ∀ ch st, Q (.panic ch) st → Q (.panic ch) (st.set d .any)
section
variable {P : Program} {N : Nat} {M0 : Nat → Prop} {w0 : Base} {ops : Array Oper} {Q : Exit → ASt → Prop} {o : Oper} {l : List Oper} {st : ASt}
theorem SimR.unput {ρ : Rho} {a : Act} {w : World} {d : Nat} {v : Value} (h : SimR N M0 w0 st ρ (a.put (some d) v) w) : SimR N M0 w0 (st.set d .any) ρ a w where
  size := by have := h.size; simpa [Act.put] using this
  defers := h.defers
  slot i := by
    show SRep _ _ _ (bif Nat.beq i d then .any else st.sl i) _
    cases hb : Nat.beq i d with
    | true => trivial
    | false =>
      have := h.slot i
      rw [getD_put, if_neg (fun e => by simp only [Option.some.injEq] at e; rw [e.1] at hb; simp at hb)] at this
      exact this
  obj := h.obj
  apart := h.apart
  gens := h.gens
  base := h.base
  ext := h.ext
  pin := h.pin
theorem Aw_drawn {id : Nat} {l : List Oper} (hm : P.follows .mixedOrders = true) (h : Ad P N M0 w0 l.toArray Q l.length (List.replicate l.length false).toArray st) : Aw P N M0 w0 (.region id l.toArray true) Q st := ⟨fun a w ⟨ρ, hs⟩ => wp_region_any hm (by
  have := h.out a { w with drawn := w.drawn + 1 } ⟨ρ, hs.grow (Ev.Ext.refl w).tick⟩
  simpa using this)⟩
/-- An operation that hangs on no memory is taken ahead. -/
theorem Ad_take {fuel : Nat} {listed : Array Bool} (i : Nat) {d : Nat} {s : SV} (hi : ops[i]? = some o) (hP : PuI P st o s) (hg : o.guard = none) (hd : o.dst = some d) (hN : d < N) (hc : conB o = true) (hns : Region.noSelect ops = true) (hf : Region.free .any ops listed i = true) (hr : (Region.ready .any ops listed).contains i = true) (hQ : PanicFree Q d)
    (h : Ad P N M0 w0 ops Q fuel (listed.setIfInBounds i true) (st.set d s)) : Ad P N M0 w0 ops Q (fuel + 1) listed st := ⟨fun a w ⟨ρ, hs⟩ => by
  obtain ⟨v, hv, hrun⟩ := hP _ ρ w a (hs.ev hc)
  refine wpAny_take (v := v) hi hns hf hr (fun c a2 w2 ⟨st2, h1, ρ2, h2⟩ => ⟨_, hQ c st2 h1, ρ2, SimR.unput (by rw [hd] at h2; exact h2)⟩) (.inl ⟨by simp [Region.wanted, hg], hrun⟩) ?_
  refine h.out _ _ ⟨ρ, ?_⟩
  rw [hd]
  exact hs.set hN hv⟩
theorem wp_turn {a : Act} {w : World} {K K' : Act → World → Prop} {R R' : Exit → Act → World → Prop} (h : ∀ a w, K a w → K' a w) (hR : ∀ c a w, R (.panic c) a w → R' (.panic c) a w) (hL : LetsOut R → LetsOut R') (hh : o.wp P a w K R) : o.wp P a w K' R' := by
  unfold Oper.wp at *
  generalize (execOp a.eval o).run P w = r at *
  cases r with
  | ok n w' =>
    cases n <;> simp only [Oper.upon] at hh ⊢
    case value => exact h _ _ hh
    case skip => exact h _ _ hh
    case defer => exact h _ _ hh
    case enter => exact Calls.mono hh (fun e w'' he => by
      cases e with
      | returned v => exact h _ _ he
      | panicked c => exact hR _ _ _ he
      | outgrown => exact hL he)
    case row => exact Go.Rows.mono hh (fun _ _ he => h _ _ he)
  | halt x w' =>
    cases x <;> simp only [Oper.upon] at hh ⊢
    case panic => exact hR _ _ _ hh
theorem wpOp_of_list {i : Nat} {a : Act} {w : World} {R R' : Exit → Act → World → Prop} {K : Act → World → Prop} (hi : ops[i]? = some o) (h : wpList P ops R [o] a w) (hK : ∀ a w, R .normal a w → K a w) (hR : ∀ c a w, R (.panic c) a w → R' (.panic c) a w) (hL : LetsOut R → LetsOut R') : wpOp P ops R' i K a w := by
  unfold wpList at h
  unfold wpOp
  simp only [hi]
  split
  · rename_i hw
    rw [if_pos hw] at h
    rcases h with h | ⟨h1, h2⟩
    · exact .inl (wp_turn (fun a w h => hK a w h) hR hL h)
    · exact .inr ⟨h1, hL h2⟩
  · rename_i hw
    rw [if_neg hw] at h
    exact hK _ _ h
/-- One operation of a region, and what stands behind it. -/
def AdNext (P : Program) (N : Nat) (M0 : Nat → Prop) (w0 : Base) (ops : Array Oper) (Q : Exit → ASt → Prop) (fuel : Nat) (listed : Array Bool) (st : ASt) : List Nat → Prop
  | [] => True
  | i :: r => (∃ o, ops[i]? = some o ∧ Al P N M0 w0 ops (Then (Ad P N M0 w0 ops Q fuel (listed.setIfInBounds i true)) Q) [o] st) ∧ AdNext P N M0 w0 ops Q fuel listed st r
theorem AdNext.get {fuel : Nat} {listed : Array Bool} : ∀ {l : List Nat}, AdNext P N M0 w0 ops Q fuel listed st l → ∀ i ∈ l, ∃ o, ops[i]? = some o ∧ Al P N M0 w0 ops (Then (Ad P N M0 w0 ops Q fuel (listed.setIfInBounds i true)) Q) [o] st
  | [], _, i, h => by cases h
  | j :: r, h, i, hi => by
    rcases List.mem_cons.1 hi with rfl | hi
    · exact h.1
    · exact h.2.get i hi
theorem Ad_all {fuel : Nat} {listed : Array Bool} (rs : List Nat) (hr : Region.ready .any ops listed = rs) (hne : rs ≠ []) (h : AdNext P N M0 w0 ops Q fuel listed st rs) : Ad P N M0 w0 ops Q (fuel + 1) listed st := ⟨fun a w hs => wpAny_all hr hne fun i hi => by
  obtain ⟨o, ho, hal⟩ := h.get i hi
  refine wpOp_of_list ho (hal.out a w hs) (fun a' w' ⟨st', h1, h2⟩ => h1.out a' w' h2) (fun c a' w' h => h) (fun ⟨a', w', h⟩ => ⟨a', w', h⟩)⟩
theorem Ad_one {fuel : Nat} {listed : Array Bool} (i : Nat) (hi : ops[i]? = some o) (hr : Region.ready .any ops listed = [i]) (h : Al P N M0 w0 ops (Then (Ad P N M0 w0 ops Q fuel (listed.setIfInBounds i true)) Q) [o] st) : Ad P N M0 w0 ops Q (fuel + 1) listed st := Ad_all [i] hr (by simp) ⟨⟨o, hi, h⟩, trivial⟩
theorem Ad_two {fuel : Nat} {listed : Array Bool} (i j : Nat) {o' : Oper} (hi : ops[i]? = some o) (hj : ops[j]? = some o') (hr : Region.ready .any ops listed = [i, j]) (h : Al P N M0 w0 ops (Then (Ad P N M0 w0 ops Q fuel (listed.setIfInBounds i true)) Q) [o] st) (h' : Al P N M0 w0 ops (Then (Ad P N M0 w0 ops Q fuel (listed.setIfInBounds j true)) Q) [o'] st) : Ad P N M0 w0 ops Q (fuel + 1) listed st := Ad_all [i, j] hr (by simp) ⟨⟨o, hi, h⟩, ⟨o', hj, h'⟩, trivial⟩
theorem Ad_done {fuel : Nat} {listed : Array Bool} (hr : Region.ready .any ops listed = []) (h : Q .normal st) : Ad P N M0 w0 ops Q fuel listed st := ⟨fun a w hs => wpAny_done hr ⟨st, h, hs⟩ fuel⟩
theorem PuI_move {x : Operand} {s : SV} (ho : o.op = .move x ∨ o.op = .assign x) (hs : st.ev x = s) : PuI P st o s := fun M ρ w a h2 => by
  refine ⟨a.eval x, ?_, fun w2 => ?_⟩
  · have := h2 x (by rcases ho with ho | ho <;> simp [opsOf, ho, Op.operands])
    rwa [hs] at this
  · rcases ho with ho | ho <;> simp [execOp, ho, Sem.run]
theorem PuI_extract {x : Operand} {i : Nat} {aa : List AV} {b : AV} (ho : o.op = .extract x i) (hx : st.ev x = .d (.tup aa)) (hb : aa[i]? = some b) : PuI P st o (.d b) := fun M ρ w a h2 => by
  have hm := h2 x (by simp [opsOf, ho, Op.operands])
  rw [hx] at hm
  generalize hy : a.eval x = y at hm
  cases hm with
  | tup cs vs hl hr =>
    have hj : i < vs.length := by rw [hl]; exact (List.getElem?_eq_some_iff.1 hb).1
    exact ⟨vs[i], hr i b _ hb (by simp [hj]), fun w2 => by simp [execOp, ho, hy, Instr.extract, hj, Sem.run]⟩
end
end Go.Proofs.Ytlcahhlghjbnkaa.A
end

section
namespace Go.Proofs.Ytlcahhlghjbnkaa
open Go.RowKit A R
namespace V
/-- What vary.Read answers: the number, the place behind it; whether there is one. -/
def gotN (s : ByteArray) (at_ : Nat) : Nat := match rdB (s.data.toList.drop at_) with | some (n, _) => n | none => 0
def gotE (s : ByteArray) (at_ : Nat) : Nat := match rdB (s.data.toList.drop at_) with | some (_, r) => s.size - r.length | none => 0
def gotB (s : ByteArray) (at_ : Nat) : Bool := (rdB (s.data.toList.drop at_)).isSome
theorem got_none {s : ByteArray} {at_ : Nat} (h : rdB (s.data.toList.drop at_) = none) : gotN s at_ = 0 ∧ gotE s at_ = 0 ∧ gotB s at_ = false := by
  unfold gotN gotE gotB; rw [h]; exact ⟨rfl, rfl, rfl⟩
theorem got_some {s : ByteArray} {at_ n : Nat} {r : List UInt8} (h : rdB (s.data.toList.drop at_) = some (n, r)) : gotN s at_ = n ∧ gotE s at_ = s.size - r.length ∧ gotB s at_ = true := by
  unfold gotN gotE gotB; rw [h]; exact ⟨rfl, rfl, rfl⟩
theorem low_bits (c : UInt8) : IntKind.u64.wrap (BitVec.ofInt IntKind.u64.bits ((c.toNat : Nat) : Int) &&& ~~~BitVec.ofInt IntKind.u64.bits 128).toNat = ((c.toNat % 128 : Nat) : Int) := by
  have h : ∀ x : Fin 256, IntKind.u64.wrap (BitVec.ofInt IntKind.u64.bits ((x : Nat) : Int) &&& ~~~BitVec.ofInt IntKind.u64.bits 128).toNat = (((x : Nat) % 128 : Nat) : Int) := by decide +kernel
  exact h ⟨c.toNat, UInt8.toNat_lt c⟩
theorem pow7 (k : Nat) : (2 : Nat) ^ (7 * k) = 128 ^ k := by rw [Nat.pow_mul]
theorem or_bits {a b k : Nat} (ha : a < 128 ^ k) (hb : 128 ^ k * b < 18446744073709551616) (h : a + 128 ^ k * b < 18446744073709551616) : IntKind.u64.wrap (BitVec.ofInt IntKind.u64.bits (a : Int) ||| BitVec.ofInt IntKind.u64.bits ((128 ^ k * b : Nat) : Int)).toNat = ((a + 128 ^ k * b : Nat) : Int) := by
  have e : a ||| 128 ^ k * b = a + 128 ^ k * b := by
    rw [← pow7] at *
    rw [Nat.or_comm, ← Nat.two_pow_add_eq_or_of_lt ha]
    omega
  have e1 : (BitVec.ofInt IntKind.u64.bits (a : Int)).toNat = a := by
    show (BitVec.ofInt 64 (a : Int)).toNat = a
    rw [BitVec.ofInt_natCast, BitVec.toNat_ofNat]; omega
  have e2 : (BitVec.ofInt IntKind.u64.bits ((128 ^ k * b : Nat) : Int)).toNat = 128 ^ k * b := by
    show (BitVec.ofInt 64 ((128 ^ k * b : Nat) : Int)).toNat = _
    rw [BitVec.ofInt_natCast, BitVec.toNat_ofNat]; omega
  rw [BitVec.toNat_or, e1, e2, e]
  exact IntWalk.u64_in _ ⟨by omega, by omega⟩
theorem two_pow_cast (n : Nat) : ((2 ^ n : Nat) : Int) = (2 : Int) ^ n := by rw [Int.natCast_pow]; rfl
theorem shl_bits (b sh : Nat) : IntKind.u64.wrap ((b : Int) * 2 ^ ((sh : Int)).toNat) = ((b * 2 ^ sh % 18446744073709551616 : Nat) : Int) := by
  rw [IntKind.wrap_u64, Int.toNat_natCast, ← two_pow_cast, ← Int.natCast_mul]
  generalize b * 2 ^ sh = x
  omega
theorem shr_bits (x sh : Nat) : (x : Int) / 2 ^ ((sh : Int)).toNat = ((x / 2 ^ sh : Nat) : Int) := by
  rw [Int.toNat_natCast, ← two_pow_cast, Int.natCast_ediv]
theorem brk {k acc : Nat} {c : UInt8} {t : List UInt8} (h : 64 ≤ 7 * k ∨ c.toNat % 128 * 2 ^ (7 * k) % 18446744073709551616 / 2 ^ (7 * k) ≠ c.toNat % 128 ∨ (c.toNat = 0 ∧ 0 < k)) : comb k acc (rd (c :: t)) = none := by
  rcases h with h | h | ⟨h, h2⟩
  · exact comb_far (by omega) _
  · refine comb_over ?_
    rw [← pow7]
    rcases Nat.lt_or_ge (2 ^ (7 * k) * (c.toNat % 128)) 18446744073709551616 with hl | hl
    · exfalso
      apply h
      rw [Nat.mul_comm, Nat.mod_eq_of_lt hl, Nat.mul_div_cancel_left _ (Nat.pow_pos (by omega))]
    · exact hl
  · rw [comb_last (by omega), if_neg (by omega)]
theorem no_over {k b : Nat} (h : b * 2 ^ (7 * k) % 18446744073709551616 / 2 ^ (7 * k) = b) (hk : ¬ 64 ≤ 7 * k) : 128 ^ k * b < 18446744073709551616 := by
  rw [← pow7]
  have hp : 0 < 2 ^ (7 * k) := Nat.pow_pos (by omega)
  have h1 := Nat.mod_lt (b * 2 ^ (7 * k)) (show 18446744073709551616 > 0 by omega)
  have h2 := Nat.div_mul_le_self (b * 2 ^ (7 * k) % 18446744073709551616) (2 ^ (7 * k))
  rw [h, Nat.mul_comm] at h2
  omega
theorem acc_fit {a b k : Nat} (ha : a < 128 ^ k) (hk : ¬ 64 ≤ 7 * k) (hb : 128 ^ k * b < 18446744073709551616) : a + 128 ^ k * b < 18446744073709551616 := by
  rw [← pow7] at *
  have hp : 0 < 2 ^ (7 * k) := Nat.pow_pos (by omega)
  have e : 2 ^ (7 * k) * 2 ^ (64 - 7 * k) = 18446744073709551616 := by
    rw [← Nat.pow_add, show 7 * k + (64 - 7 * k) = 64 by omega]
  have hb2 : b < 2 ^ (64 - 7 * k) := by
    rw [← e] at hb
    exact Nat.lt_of_mul_lt_mul_left hb
  have h3 : 2 ^ (7 * k) * (b + 1) ≤ 2 ^ (7 * k) * 2 ^ (64 - 7 * k) := Nat.mul_le_mul_left _ hb2
  rw [e, Nat.mul_add] at h3
  omega
end V
set_option maxRecDepth 100000 in
theorem vread_a (s : ByteArray) (at_ : Nat) (hs : s.size ≤ 1000000) : ACall Try.prog 36 [tv s, iv at_] (.tup [uv (V.gotN s at_), iv (V.gotE s at_), bv (V.gotB s at_)]) := by
  refine ACall_enterG (fun _ _ => by kernel_rfl) Try.func36 rfl Try.ntmps36 (Reads.r3 Try.results36) (Nat.le_of_ble_eq_true rfl) (fun hok M0 w0 hnl => ?_)
  refine Aw_seq (Aw_region ?_)
  refine Al_p Pu_mvr ?_
  refine Al_p Pu_mvr ?_
  refine Al_p Pu_mvr ?_
  refine Al_nil (Aw_scope (Aw_seq (Aw_seq (Aw_region ?_))))
  refine Al_p Pu_mvl ?_
  refine Al_p (Pu_cmp rfl rfl rfl rfl) ?_
  refine Al_p Pu_mvl ?_
  refine Al_st (St_gd [] rfl rfl rfl rfl trivial (fun hg14 => by exact Pu_move (.inl rfl) (by conv => lhs; whnf))) rfl (by decide) (by kernel_rfl) (by intro j b oj dj h1 h2 h3; cases h1; cases h2; cases h3; decide) ?_
  refine Al_st (St_gd [] rfl rfl rfl rfl trivial (fun hg15 => by exact Pu_move (.inl rfl) (by conv => lhs; whnf))) rfl (by decide) (by kernel_rfl) (by intro j b oj dj h1 h2 h3; cases h1; cases h2; cases h3; decide) ?_
  refine Al_st (St_gd [15] rfl rfl rfl rfl ⟨⟨_, rfl⟩, trivial⟩ (fun hg16 => Pu_lenS rfl Try.underlying9 rfl)) rfl (by decide) (by kernel_rfl) (by intro j b oj dj h1 h2 h3; cases h1; cases h2; cases h3; decide) ?_
  refine Al_st (St_gd [14, 16] rfl rfl rfl rfl ⟨⟨_, rfl⟩, ⟨_, rfl⟩, trivial⟩ (fun hg17 => Pu_cmp rfl rfl rfl rfl)) rfl (by decide) (by kernel_rfl) (by intro j b oj dj h1 h2 h3; cases h1; cases h2; cases h3; decide) ?_
  refine Al_p (Pu_or rfl rfl rfl rfl) ?_
  refine Al_nil ?_
  refine Aw_cond rfl (fun h18 => ?_) (fun h18 => ?_)
  · skip
    have hge : s.size ≤ at_ := by
      simp only [Bool.or_eq_true, decide_eq_true_eq] at h18
      omega
    obtain ⟨e1, e2, e3⟩ := V.got_none (s := s) (at_ := at_) (by rw [List.drop_eq_nil_of_le (by simpa using hge)]; rfl)
    refine Aw_seq (Aw_region ?_)
    refine Al_p Pu_mvr ?_
    refine Al_p Pu_mvr ?_
    refine Al_p Pu_mvr ?_
    refine Al_nil ?_
    refine Aw_ret ?_
    exact ⟨_, _, _, rfl, Sub.num (by rw [e1]; rfl), Sub.num (by rw [e2]; rfl), Sub.bool (by rw [e3])⟩ -- ret 0
  · skip
    have hlt : at_ < s.size := by
      simp only [Bool.or_eq_false_iff, decide_eq_false_iff_not] at h18
      omega
    refine Aw_skip (Aw_seq (Aw_label ?_))
    -- join 0: live [], turned []
    refine Aw_seq (Aw_seq (Aw_region ?_))
    refine Al_p Pu_mvl ?_
    refine Al_p Pu_mvr ?_
    refine Al_nil (Aw_block ?_)
    refine Aw_loopk (ι := Nat × Nat) [0, 1] [] (fun (k, acc) => [(7, .d (iv ((at_ + k : Nat) : Int))), (4, .d (uv acc))]) (fun (k, acc) => []) (fun (k, acc) => at_ + k ≤ s.size ∧ acc < 128 ^ k ∧ acc < 18446744073709551616 ∧ V.rdB (s.data.toList.drop at_) = V.comb k acc (V.rd (s.data.toList.drop (at_ + k)))) (fun (k, acc) => s.size - (at_ + k)) (0, 0) (⟨by omega, by simp, by omega, rfl⟩) ⟨Sub.num (by omega), Sub.rfl, trivial⟩ trivial ?_
    rintro ⟨k, acc⟩ ⟨hk1, hk2, hk3, hk4⟩
    refine Aw_seq (Aw_seq (Aw_region ?_))
    refine Al_p Pu_mvl ?_
    refine Al_p Pu_mvl ?_
    refine Al_p (Pu_lenS rfl Try.underlying9 rfl) ?_
    refine Al_p (Pu_cmp rfl rfl rfl rfl) ?_
    refine Al_nil ?_
    refine Aw_cond rfl (fun h23 => ?_) (fun h23 => ?_)
    · (try simp only [decide_eq_true_eq, decide_eq_false_iff_not, Bool.and_eq_true, Bool.or_eq_true, Bool.and_eq_false_iff, Bool.or_eq_false_iff, Bool.not_eq_true', Bool.not_eq_false', beq_iff_eq, Bool.not_eq_eq_eq_not, Bool.not_true, Bool.not_false, List.length_map, Bool.and_true, Bool.and_false, Bool.false_and, Bool.true_and, Bool.or_false, Bool.false_or] at h23)
      have hi : at_ + k < s.size := by omega
      have hdr : s.data.toList.drop (at_ + k) = s[at_ + k] :: s.data.toList.drop (at_ + k + 1) := by
        rw [List.drop_eq_getElem_cons (by simpa using hi)]; rfl
      rw [hdr] at hk4
      have hcl := UInt8.toNat_lt s[at_ + k]
      have q41 : decide (64 ≤ ((7 * k : Nat) : Int)) = false → (0 : Int) ≤ ((7 * k : Nat) : Int) ∧ ((7 * k : Nat) : Int) ≤ (IntKind.u64.bits : Nat) := fun h => by
        have := of_decide_eq_false h
        exact ⟨by omega, by show ((7 * k : Nat) : Int) ≤ 64; omega⟩
      have q2 : vok (.int .u64 ((s[at_ + k].toNat % 128 * 2 ^ (7 * k) % 18446744073709551616 : Nat) : Int)) := ⟨by omega, by omega⟩
      have q3 : vok (.int .u64 ((s[at_ + k].toNat % 128 * 2 ^ (7 * k) % 18446744073709551616 / 2 ^ (7 * k) : Nat) : Int)) := by
        have := Nat.div_le_self (s[at_ + k].toNat % 128 * 2 ^ (7 * k) % 18446744073709551616) (2 ^ (7 * k))
        have h2 := Nat.mod_lt (s[at_ + k].toNat % 128 * 2 ^ (7 * k)) (show 18446744073709551616 > 0 by omega)
        exact ⟨Int.natCast_nonneg _, Int.ofNat_le.2 (Nat.le_trans this (Nat.le_of_lt_succ h2))⟩
      refine Aw_skip (Aw_seq (Aw_block (Aw_seq (Aw_region ?_))))
      refine Al_p Pu_mvl ?_
      refine Al_p Pu_mvl ?_
      refine Al_p (Pu_indexS rfl Try.underlying9 rfl rfl (rfl) (getS hi)) ?_
      refine Al_p (Pu_conv rfl Try.underlying5 Try.underlying42 rfl (fun hv => u64_nat (by omega) (by simp only [vok, A.inI] at hv; omega))) ?_
      refine Al_p Pu_mvr ?_
      refine Al_nil (Aw_seq (Aw_region ?_))
      refine Al_p Pu_mvl ?_
      refine Al_p Pu_mvl ?_
      refine Al_p (Pu_sub rfl rfl rfl (fun h1 h2 => by simp only [A.inI, A.maxI] at *; omega)) ?_
      refine Al_p (Pu_int_mul (r := ((7 * k : Nat) : Int)) rfl rfl rfl (by rw [show (7 : Int) * (((at_ + k : Nat) : Int) - (at_ : Int)) = ((7 * k : Nat) : Int) from by omega]; exact IntWalk.i64_in _ (by omega)) (fun _ => by show A.inI _; simp only [A.inI]; omega)) ?_
      refine Al_p Pu_mvr ?_
      refine Al_nil (Aw_seq (Aw_region ?_))
      refine Al_p Pu_mvl ?_
      refine Al_p (Pu_int_andNot (r := ((s[at_ + k].toNat % 128 : Nat) : Int)) rfl rfl rfl (V.low_bits _) (fun _ => by constructor <;> omega)) ?_
      refine Al_p Pu_mvr ?_
      refine Al_nil (Aw_seq (Aw_seq (Aw_region ?_)))
      refine Al_p Pu_mvl ?_
      refine Al_p (Pu_cmp rfl rfl rfl rfl) ?_
      refine Al_p Pu_mvl ?_
      refine Al_st (St_gd [] rfl rfl rfl rfl trivial (fun hg39 => by exact Pu_move (.inl rfl) (by conv => lhs; whnf))) rfl (by decide) (by kernel_rfl) (by intro j b oj dj h1 h2 h3; cases h1; cases h2; cases h3; decide) ?_
      refine Al_st (St_gd [] rfl rfl rfl rfl trivial (fun hg40 => by exact Pu_move (.inl rfl) (by conv => lhs; whnf))) rfl (by decide) (by kernel_rfl) (by intro j b oj dj h1 h2 h3; cases h1; cases h2; cases h3; decide) ?_
      refine Al_st (St_gd [39, 40] rfl rfl rfl rfl ⟨⟨_, rfl⟩, ⟨_, rfl⟩, trivial⟩ (fun hg41 => Pu_int_shl rfl rfl rfl (q41 hg41) (V.shl_bits (s[at_ + k].toNat % 128) (7 * k)) (fun _ => q2))) rfl (by decide) (by kernel_rfl) (by intro j b oj dj h1 h2 h3; cases h1; cases h2; cases h3; decide) ?_
      refine Al_st (St_gd [] rfl rfl rfl rfl trivial (fun hg42 => by exact Pu_move (.inl rfl) (by conv => lhs; whnf))) rfl (by decide) (by kernel_rfl) (by intro j b oj dj h1 h2 h3; cases h1; cases h2; cases h3; decide) ?_
      refine Al_st (St_gd [41, 42] rfl rfl rfl rfl ⟨⟨_, rfl⟩, ⟨_, rfl⟩, trivial⟩ (fun hg43 => Pu_int_shr rfl rfl rfl (q41 hg43) (V.shr_bits (s[at_ + k].toNat % 128 * 2 ^ (7 * k) % 18446744073709551616) (7 * k)) (fun _ => q3))) rfl (by decide) (by kernel_rfl) (by intro j b oj dj h1 h2 h3; cases h1; cases h2; cases h3; decide) ?_
      refine Al_st (St_gd [] rfl rfl rfl rfl trivial (fun hg44 => by exact Pu_move (.inl rfl) (by conv => lhs; whnf))) rfl (by decide) (by kernel_rfl) (by intro j b oj dj h1 h2 h3; cases h1; cases h2; cases h3; decide) ?_
      refine Al_st (St_gd [43, 44] rfl rfl rfl rfl ⟨⟨_, rfl⟩, ⟨_, rfl⟩, trivial⟩ (fun hg45 => Pu_cmp rfl rfl rfl rfl)) rfl (by decide) (by kernel_rfl) (by intro j b oj dj h1 h2 h3; cases h1; cases h2; cases h3; decide) ?_
      refine Al_p (Pu_or rfl rfl rfl rfl) ?_
      refine Al_p Pu_mvl ?_
      refine Al_st (St_gd [] rfl rfl rfl rfl trivial (fun hg48 => by exact Pu_move (.inl rfl) (by conv => lhs; whnf))) rfl (by decide) (by kernel_rfl) (by intro j b oj dj h1 h2 h3; cases h1; cases h2; cases h3; decide) ?_
      refine Al_st (St_gd [48] rfl rfl rfl rfl ⟨⟨_, rfl⟩, trivial⟩ (fun hg49 => Pu_cmp rfl rfl rfl rfl)) rfl (by decide) (by kernel_rfl) (by intro j b oj dj h1 h2 h3; cases h1; cases h2; cases h3; decide) ?_
      refine Al_st (St_gd [49] rfl rfl rfl rfl ⟨⟨_, rfl⟩, trivial⟩ (fun hg50 => by exact Pu_move (.inl rfl) (by conv => lhs; whnf))) rfl (by decide) (by kernel_rfl) (by intro j b oj dj h1 h2 h3; cases h1; cases h2; cases h3; decide) ?_
      refine Al_st (St_gd2 [] rfl rfl rfl rfl trivial (fun hp51 hg51 => by exact Pu_move (.inl rfl) (by conv => lhs; whnf))) rfl (by decide) (by kernel_rfl) (by intro j b oj dj h1 h2 h3; cases h1; cases h2; cases h3; decide) ?_
      refine Al_st (St_gd2 [] rfl rfl rfl rfl trivial (fun hp52 hg52 => by exact Pu_move (.inl rfl) (by conv => lhs; whnf))) rfl (by decide) (by kernel_rfl) (by intro j b oj dj h1 h2 h3; cases h1; cases h2; cases h3; decide) ?_
      refine Al_st (St_gd2 [51, 52] rfl rfl rfl rfl ⟨⟨_, rfl⟩, ⟨_, rfl⟩, trivial⟩ (fun hp53 hg53 => Pu_cmp rfl rfl rfl rfl)) rfl (by decide) (by kernel_rfl) (by intro j b oj dj h1 h2 h3; cases h1; cases h2; cases h3; decide) ?_
      refine Al_st (St_gd [50] rfl rfl rfl rfl ⟨⟨_, rfl⟩, trivial⟩ (fun hg54 => Pu_andG rfl rfl (fun h => ⟨hg54, h⟩) rfl rfl)) rfl (by decide) (by kernel_rfl) (by intro j b oj dj h1 h2 h3; cases h1; cases h2; cases h3; decide) ?_
      refine Al_p (Pu_or rfl rfl rfl rfl) ?_
      refine Al_nil ?_
      refine Aw_cond rfl (fun h55 => ?_) (fun h55 => ?_)
      · skip
        have hbk : V.rdB (s.data.toList.drop at_) = none := by
          rw [hk4]
          refine V.brk ?_
          simp only [Bool.or_eq_true, Bool.and_eq_true, Bool.not_eq_true', decide_eq_true_eq, decide_eq_false_iff_not] at h55
          rcases h55 with (h | h) | ⟨h, h'⟩
          · exact .inl (by omega)
          · exact .inr (.inl fun e => h (by rw [e]))
          · exact .inr (.inr ⟨by omega, by omega⟩)
        obtain ⟨e1, e2, e3⟩ := V.got_none hbk
        refine Aw_exit (Aw_seq (Aw_region ?_))
        refine Al_p Pu_mvr ?_
        refine Al_p Pu_mvr ?_
        refine Al_p Pu_mvr ?_
        refine Al_nil ?_
        refine Aw_ret ?_
        exact ⟨_, _, _, rfl, Sub.num (by rw [e1]; rfl), Sub.num (by rw [e2]; rfl), Sub.bool (by rw [e3])⟩ -- ret 1
      · skip
        have hsf : ¬ 64 ≤ 7 * k ∧ s[at_ + k].toNat % 128 * 2 ^ (7 * k) % 18446744073709551616 / 2 ^ (7 * k) = s[at_ + k].toNat % 128 ∧ (k = 0 ∨ s[at_ + k].toNat ≠ 0) := by
          simp only [Bool.or_eq_false_iff, Bool.and_eq_false_iff, Bool.not_eq_false', decide_eq_true_eq, decide_eq_false_iff_not] at h55
          obtain ⟨⟨h, h'⟩, h''⟩ := h55
          exact ⟨by omega, Int.ofNat_inj.1 h', by omega⟩
        obtain ⟨s1, s2, s3⟩ := hsf
        have hov := V.no_over s2 s1
        have hfit := V.acc_fit hk2 s1 hov
        have q59 : (0 : Int) ≤ ((7 * k : Nat) : Int) ∧ ((7 * k : Nat) : Int) ≤ (IntKind.u64.bits : Nat) := ⟨by omega, by show ((7 * k : Nat) : Int) ≤ 64; omega⟩
        have q60 : IntKind.u64.wrap (((s[at_ + k].toNat % 128 : Nat) : Int) * 2 ^ (((7 * k : Nat) : Int)).toNat) = ((128 ^ k * (s[at_ + k].toNat % 128) : Nat) : Int) := by
          rw [V.shl_bits, V.pow7, Nat.mul_comm, Nat.mod_eq_of_lt hov]
        refine Aw_skip (Aw_seq (Aw_region ?_))
        refine Al_p Pu_mvl ?_
        refine Al_p Pu_mvl ?_
        refine Al_p Pu_mvl ?_
        refine Al_p (Pu_int_shl rfl rfl rfl q59 q60 (fun _ => by exact ⟨by omega, by omega⟩)) ?_
        refine Al_p (Pu_int_or rfl rfl rfl (V.or_bits hk2 hov hfit) (fun _ => by exact ⟨by omega, by omega⟩)) ?_
        refine Al_p Pu_mvr ?_
        refine Al_nil (Aw_seq (Aw_region ?_))
        refine Al_p Pu_mvl ?_
        refine Al_p (Pu_cmp rfl rfl rfl rfl) ?_
        refine Al_nil ?_
        refine Aw_cond rfl (fun h62 => ?_) (fun h62 => ?_)
        · (try simp only [decide_eq_true_eq, decide_eq_false_iff_not, Bool.and_eq_true, Bool.or_eq_true, Bool.and_eq_false_iff, Bool.or_eq_false_iff, Bool.not_eq_true', Bool.not_eq_false', beq_iff_eq, Bool.not_eq_eq_eq_not, Bool.not_true, Bool.not_false, List.length_map, Bool.and_true, Bool.and_false, Bool.false_and, Bool.true_and, Bool.or_false, Bool.false_or] at h62)
          have hsm : s[at_ + k].toNat < 128 := by omega
          have hmo : s[at_ + k].toNat % 128 = s[at_ + k].toNat := Nat.mod_eq_of_lt hsm
          rw [hmo] at hfit
          have hgot := V.got_some (s := s) (at_ := at_) (n := acc + 128 ^ k * s[at_ + k].toNat) (r := s.data.toList.drop (at_ + k + 1)) (by rw [hk4, V.comb_last hsm, if_pos ⟨s3, hfit⟩])
          obtain ⟨e1, e2, e3⟩ := hgot
          have elen : (s.data.toList.drop (at_ + k + 1)).length = s.size - (at_ + k + 1) := by rw [List.length_drop]; rfl
          refine Aw_seq (Aw_region ?_)
          refine Al_p Pu_mvl ?_
          refine Al_p Pu_mvl ?_
          refine Al_p (Pu_add rfl rfl rfl (fun h1 h2 => by simp only [A.inI, A.maxI] at *; omega)) ?_
          refine Al_p Pu_mvr ?_
          refine Al_p Pu_mvr ?_
          refine Al_p Pu_mvr ?_
          refine Al_nil ?_
          refine Aw_ret ?_
          exact ⟨_, _, _, rfl, Sub.num (by rw [e1, hmo]), Sub.num (by rw [e2, elen]; omega), Sub.bool (by rw [e3])⟩ -- ret 2
        · (try simp only [decide_eq_true_eq, decide_eq_false_iff_not, Bool.and_eq_true, Bool.or_eq_true, Bool.and_eq_false_iff, Bool.or_eq_false_iff, Bool.not_eq_true', Bool.not_eq_false', beq_iff_eq, Bool.not_eq_eq_eq_not, Bool.not_true, Bool.not_false, List.length_map, Bool.and_true, Bool.and_false, Bool.false_and, Bool.true_and, Bool.or_false, Bool.false_or] at h62)
          have hbg : 128 ≤ s[at_ + k].toNat := by omega
          have hmo : s[at_ + k].toNat % 128 = s[at_ + k].toNat - 128 := by omega
          have hacc : acc + 128 ^ k * (s[at_ + k].toNat % 128) < 128 ^ (k + 1) := by
            have h1 : 128 ^ k * (s[at_ + k].toNat % 128) ≤ 128 ^ k * 127 := Nat.mul_le_mul_left _ (by omega)
            rw [Nat.pow_succ]; omega
          refine Aw_skip (Aw_region ?_)
          refine Al_p Pu_mvl ?_
          refine Al_p (Pu_add rfl rfl rfl (fun h1 h2 => by simp only [A.inI, A.maxI] at *; omega)) ?_
          refine Al_p Pu_mvr ?_
          refine Al_nil ?_
          exact ⟨(k + 1, acc + 128 ^ k * (s[at_ + k].toNat % 128)), ⟨by omega, hacc, hfit, by rw [hk4, V.comb_more hbg, hmo]; rfl⟩, by simp only []; omega, Le.ov ⟨Sub.num (by omega), Sub.rfl, trivial⟩ ⟨Sub.rfl, Sub.rfl, trivial⟩ trivial trivial⟩ -- loop 0 next.0
    · (try simp only [decide_eq_true_eq, decide_eq_false_iff_not, Bool.and_eq_true, Bool.or_eq_true, Bool.and_eq_false_iff, Bool.or_eq_false_iff, Bool.not_eq_true', Bool.not_eq_false', beq_iff_eq, Bool.not_eq_eq_eq_not, Bool.not_true, Bool.not_false, List.length_map, Bool.and_true, Bool.and_false, Bool.false_and, Bool.true_and, Bool.or_false, Bool.false_or] at h23)
      have hend : s.size ≤ at_ + k := by omega
      rw [List.drop_eq_nil_of_le (show s.data.toList.length ≤ at_ + k from hend)] at hk4
      obtain ⟨e1, e2, e3⟩ := V.got_none (s := s) (at_ := at_) hk4
      refine Aw_exit (Aw_seq (Aw_region ?_))
      refine Al_p Pu_mvr ?_
      refine Al_p Pu_mvr ?_
      refine Al_p Pu_mvr ?_
      refine Al_nil ?_
      refine Aw_ret ?_
      exact ⟨_, _, _, rfl, Sub.num (by rw [e1]; rfl), Sub.num (by rw [e2]; rfl), Sub.bool (by rw [e3])⟩ -- ret 3
end Go.Proofs.Ytlcahhlghjbnkaa
namespace Go.Proofs.Ytlcahhlghjbnkaa
namespace V
/-- A number up to a bound. -/
def pnum (most : Nat) (r : List UInt8) : Option (Nat × List UInt8) := match rdB r with
  | some (n, t) => if n ≤ most then some (n, t) else none
  | none => none
/-- A text up to a bound. -/
def ptext (most : Nat) (r : List UInt8) : Option (List UInt8 × List UInt8) := match rdB r with
  | some (n, t) => if n ≤ most ∧ n ≤ t.length then some (t.take n, t.drop n) else none
  | none => none
/-- So many of them. -/
def pmany {α : Type} (p : List UInt8 → Option (α × List UInt8)) : Nat → List UInt8 → Option (List α × List UInt8)
  | 0, r => some ([], r)
  | k + 1, r => match p r with
    | none => none
    | some (x, t) => match pmany p k t with
      | none => none
      | some (xs, t') => some (x :: xs, t')
theorem pmany_snoc {α : Type} {p : List UInt8 → Option (α × List UInt8)} : ∀ (k : Nat) (r : List UInt8), pmany p (k + 1) r = (match pmany p k r with
    | none => none
    | some (xs, t) => match p t with
      | none => none
      | some (x, t') => some (xs ++ [x], t'))
  | 0, r => by
    simp only [pmany]
    cases p r with
    | none => rfl
    | some y => rfl
  | k + 1, r => by
    rw [pmany]
    conv => rhs; rw [pmany]
    cases h : p r with
    | none => rfl
    | some y =>
      obtain ⟨x, t⟩ := y
      simp only
      rw [pmany_snoc k t]
      cases pmany p k t with
      | none => rfl
      | some z =>
        obtain ⟨xs, t'⟩ := z
        simp only
        cases p t' with
        | none => rfl
        | some u => rfl
theorem pmany_none {α : Type} {p : List UInt8 → Option (α × List UInt8)} {k m : Nat} {r : List UInt8} (h : pmany p k r = none) (hk : k ≤ m) : pmany p m r = none := by
  induction m with
  | zero => rwa [show k = 0 from by omega] at h
  | succ m ih =>
    rcases Nat.lt_or_ge m k with h1 | h1
    · rwa [show m + 1 = k from by omega]
    · rw [pmany_snoc, ih h1]
theorem rdB_suf {r t : List UInt8} {n : Nat} (h : rdB r = some (n, t)) : n < 18446744073709551616 ∧ r = num n ++ t := by
  unfold rdB at h
  cases hr : rd r with
  | none => rw [hr] at h; cases h
  | some x =>
    obtain ⟨m, t'⟩ := x
    rw [hr] at h
    simp only [comb] at h
    split at h
    · rename_i hc
      simp only [Option.some.injEq, Prod.mk.injEq] at h
      obtain ⟨h1, rfl⟩ := h
      have : m = n := by omega
      subst this
      exact ⟨by omega, rd_some _ _ _ hr⟩
    · cases h
theorem rdB_num {n : Nat} (hn : n < 18446744073709551616) (t : List UInt8) : rdB (num n ++ t) = some (n, t) := by
  unfold rdB
  rw [rd_num]
  simp only [comb]
  rw [if_pos ⟨.inl trivial, by omega⟩]
  simp
theorem pnum_iff {most n : Nat} {r t : List UInt8} (hm : most < 18446744073709551616) : pnum most r = some (n, t) ↔ n ≤ most ∧ r = num n ++ t := by
  unfold pnum
  constructor
  · intro h
    split at h
    · rename_i n' t' hr
      split at h
      · cases h; exact ⟨by assumption, (rdB_suf hr).2⟩
      · cases h
    · cases h
  · rintro ⟨h1, rfl⟩
    rw [rdB_num (by omega)]
    simp [h1]
theorem text_ba (x : List UInt8) : text (ba x) = num x.length ++ x := by
  unfold text; rw [A.ba_sz]
theorem ptext_iff {most : Nat} {r t : List UInt8} {x : List UInt8} (hm : most < 18446744073709551616) : ptext most r = some (x, t) ↔ x.length ≤ most ∧ r = text (ba x) ++ t := by
  rw [text_ba]
  unfold ptext
  constructor
  · intro h
    split at h
    · rename_i n' t' hr
      split at h
      · rename_i hc
        simp only [Option.some.injEq, Prod.mk.injEq] at h
        obtain ⟨rfl, rfl⟩ := h
        have hl : (t'.take n').length = n' := by simp; omega
        rw [hl]
        exact ⟨hc.1, by rw [(rdB_suf hr).2, List.append_assoc, List.take_append_drop]⟩
      · cases h
    · cases h
  · rintro ⟨h1, rfl⟩
    rw [List.append_assoc, rdB_num (by omega)]
    simp [h1]
/-- What is behind a place. -/
theorem drop_suf {s : ByteArray} {r : List UInt8} (h : r <:+ s.data.toList) : s.data.toList.drop (s.size - r.length) = r := by
  obtain ⟨p, hp⟩ := h
  have hs : s.size = p.length + r.length := by
    show s.data.size = _
    rw [← Array.length_toList, ← hp, List.length_append]
  rw [← hp, hs, Nat.add_sub_cancel, List.drop_left]
theorem suf_app {p t l : List UInt8} (h : p ++ t <:+ l) : t <:+ l := (List.suffix_append p t).trans h
theorem suf_len {s : ByteArray} {r : List UInt8} (h : r <:+ s.data.toList) : r.length ≤ s.size := by
  have := h.length_le
  rwa [Array.length_toList] at this
end V
end Go.Proofs.Ytlcahhlghjbnkaa
namespace Go.Proofs.Ytlcahhlghjbnkaa
open Go.RowKit A R
namespace V
/-- What vary.ReadText answers. -/
def rtT (s : ByteArray) (at_ most : Nat) : ByteArray := match ptext most (s.data.toList.drop at_) with | some (x, _) => ba x | none => ⟨#[]⟩
def rtE (s : ByteArray) (at_ most : Nat) : Nat := match ptext most (s.data.toList.drop at_) with | some (_, t) => s.size - t.length | none => 0
def rtB (s : ByteArray) (at_ most : Nat) : Bool := (ptext most (s.data.toList.drop at_)).isSome
theorem got_cases (s : ByteArray) (at_ : Nat) : (gotB s at_ = false ∧ gotN s at_ = 0 ∧ gotE s at_ = 0 ∧ rdB (s.data.toList.drop at_) = none) ∨ ∃ n t, gotB s at_ = true ∧ gotN s at_ = n ∧ gotE s at_ = s.size - t.length ∧ rdB (s.data.toList.drop at_) = some (n, t) ∧ n < 18446744073709551616 ∧ t <:+ s.data.toList := by
  cases h : rdB (s.data.toList.drop at_) with
  | none => obtain ⟨e1, e2, e3⟩ := got_none h; exact .inl ⟨e3, e1, e2, rfl⟩
  | some x =>
    obtain ⟨n, t⟩ := x
    obtain ⟨e1, e2, e3⟩ := got_some h
    obtain ⟨h1, h2⟩ := rdB_suf h
    exact .inr ⟨n, t, e3, e1, e2, rfl, h1, suf_app (p := num n) (by rw [← h2]; exact List.drop_suffix _ _)⟩
theorem cut_ba (s : ByteArray) (t : List UInt8) (n : Nat) (h : t <:+ s.data.toList) (hn : n ≤ t.length) : s.extract (s.size - t.length) (s.size - t.length + n) = ba (t.take n) := by
  apply ByteArray.ext
  apply Array.ext'
  rw [ByteArray.data_extract]
  rw [Array.toList_extract]
  simp only [List.extract]
  show List.take _ (List.drop _ _) = t.take n
  rw [drop_suf h, Nat.add_sub_cancel_left]
theorem rt_none {s : ByteArray} {at_ most : Nat} (h : ptext most (s.data.toList.drop at_) = none) : rtT s at_ most = ⟨#[]⟩ ∧ rtE s at_ most = 0 ∧ rtB s at_ most = false := by
  unfold rtT rtE rtB; rw [h]; exact ⟨rfl, rfl, rfl⟩
theorem rt_some {s : ByteArray} {at_ most : Nat} {x t : List UInt8} (h : ptext most (s.data.toList.drop at_) = some (x, t)) : rtT s at_ most = ba x ∧ rtE s at_ most = s.size - t.length ∧ rtB s at_ most = true := by
  unfold rtT rtE rtB; rw [h]; exact ⟨rfl, rfl, rfl⟩
end V
set_option maxRecDepth 100000 in
theorem readtext_a (s : ByteArray) (at_ most : Nat) (hs : s.size ≤ 1000000) (hm : most ≤ 1000000) : ACall Try.prog 56 [tv s, iv at_, iv most] (.tup [tv (V.rtT s at_ most), iv (V.rtE s at_ most), bv (V.rtB s at_ most)]) := by
  refine ACall_enterG (fun _ _ => by kernel_rfl) Try.func56 rfl Try.ntmps56 (Reads.r3 Try.results56) (Nat.le_of_ble_eq_true rfl) (fun hok M0 w0 hnl => ?_)
  have hcs := V.got_cases s at_
  have hE : V.gotE s at_ ≤ s.size := by
    rcases hcs with ⟨_, _, h, _⟩ | ⟨n, t, _, _, h, _⟩ <;> omega
  have hN : V.gotN s at_ < 18446744073709551616 := by
    rcases hcs with ⟨_, h, _, _⟩ | ⟨n, t, _, h, _, _, h2, _⟩ <;> omega
  refine Aw_seq (Aw_region ?_)
  refine Al_p Pu_mvr ?_
  refine Al_p Pu_mvr ?_
  refine Al_p Pu_mvr ?_
  refine Al_nil (Aw_seq (Aw_region ?_))
  refine Al_p Pu_mvl ?_
  refine Al_p Pu_mvl ?_
  refine Al_p (Pu_call (vread_a s at_ hs) rfl ⟨Sub.rfl, Sub.rfl, trivial⟩) ?_
  refine Al_p Pu_mvl ?_
  refine Al_p (Pu_extract rfl rfl rfl) ?_
  refine Al_p (Pu_extract rfl rfl rfl) ?_
  refine Al_p (Pu_extract rfl rfl rfl) ?_
  refine Al_p Pu_mvr ?_
  refine Al_p Pu_mvr ?_
  refine Al_p Pu_mvr ?_
  refine Al_nil (Aw_seq (Aw_seq (Aw_region ?_)))
  refine Al_p Pu_mvl ?_
  refine Al_p (Pu_not rfl rfl) ?_
  refine Al_p Pu_mvl ?_
  refine Al_st (St_gd [] rfl rfl rfl rfl trivial (fun hg21 => by exact Pu_move (.inl rfl) (by conv => lhs; whnf))) rfl (by decide) (by kernel_rfl) (by intro j b oj dj h1 h2 h3; cases h1; cases h2; cases h3; decide) ?_
  refine Al_st (St_gd [21] rfl rfl rfl rfl ⟨⟨_, rfl⟩, trivial⟩ (fun hg22 => Pu_cmp rfl rfl rfl rfl)) rfl (by decide) (by kernel_rfl) (by intro j b oj dj h1 h2 h3; cases h1; cases h2; cases h3; decide) ?_
  refine Al_p (Pu_or rfl rfl rfl rfl) ?_
  refine Al_p Pu_mvl ?_
  refine Al_st (St_gd [] rfl rfl rfl rfl trivial (fun hg25 => by exact Pu_move (.inl rfl) (by conv => lhs; whnf))) rfl (by decide) (by kernel_rfl) (by intro j b oj dj h1 h2 h3; cases h1; cases h2; cases h3; decide) ?_
  refine Al_st (St_gd [] rfl rfl rfl rfl trivial (fun hg26 => by exact Pu_move (.inl rfl) (by conv => lhs; whnf))) rfl (by decide) (by kernel_rfl) (by intro j b oj dj h1 h2 h3; cases h1; cases h2; cases h3; decide) ?_
  refine Al_st (St_gd [26] rfl rfl rfl rfl ⟨⟨_, rfl⟩, trivial⟩ (fun hg27 => by exact Pu_conv rfl Try.underlying3 Try.underlying42 rfl (fun hv => u64_nat (by omega) (by simp only [vok, A.inI] at hv; omega)))) rfl (by decide) (by kernel_rfl) (by intro j b oj dj h1 h2 h3; cases h1; cases h2; cases h3; decide) ?_
  refine Al_st (St_gd [25, 27] rfl rfl rfl rfl ⟨⟨_, rfl⟩, ⟨_, rfl⟩, trivial⟩ (fun hg28 => Pu_cmp rfl rfl rfl rfl)) rfl (by decide) (by kernel_rfl) (by intro j b oj dj h1 h2 h3; cases h1; cases h2; cases h3; decide) ?_
  refine Al_p (Pu_or rfl rfl rfl rfl) ?_
  refine Al_p Pu_mvl ?_
  refine Al_st (St_gd [] rfl rfl rfl rfl trivial (fun hg31 => by exact Pu_move (.inl rfl) (by conv => lhs; whnf))) rfl (by decide) (by kernel_rfl) (by intro j b oj dj h1 h2 h3; cases h1; cases h2; cases h3; decide) ?_
  refine Al_st (St_gd [] rfl rfl rfl rfl trivial (fun hg32 => by exact Pu_move (.inl rfl) (by conv => lhs; whnf))) rfl (by decide) (by kernel_rfl) (by intro j b oj dj h1 h2 h3; cases h1; cases h2; cases h3; decide) ?_
  refine Al_st (St_gd [32] rfl rfl rfl rfl ⟨⟨_, rfl⟩, trivial⟩ (fun hg33 => Pu_lenS rfl Try.underlying9 rfl)) rfl (by decide) (by kernel_rfl) (by intro j b oj dj h1 h2 h3; cases h1; cases h2; cases h3; decide) ?_
  refine Al_st (St_gd [] rfl rfl rfl rfl trivial (fun hg34 => by exact Pu_move (.inl rfl) (by conv => lhs; whnf))) rfl (by decide) (by kernel_rfl) (by intro j b oj dj h1 h2 h3; cases h1; cases h2; cases h3; decide) ?_
  refine Al_st (St_gd [33, 34] rfl rfl rfl rfl ⟨⟨_, rfl⟩, ⟨_, rfl⟩, trivial⟩ (fun hg35 => by exact Pu_sub rfl rfl rfl (fun h1 h2 => by simp only [A.inI, A.maxI] at *; omega))) rfl (by decide) (by kernel_rfl) (by intro j b oj dj h1 h2 h3; cases h1; cases h2; cases h3; decide) ?_
  refine Al_st (St_gd [35] rfl rfl rfl rfl ⟨⟨_, rfl⟩, trivial⟩ (fun hg36 => by exact Pu_conv rfl Try.underlying3 Try.underlying42 rfl (fun hv => u64_nat (by omega) (by omega)))) rfl (by decide) (by kernel_rfl) (by intro j b oj dj h1 h2 h3; cases h1; cases h2; cases h3; decide) ?_
  refine Al_st (St_gd [31, 36] rfl rfl rfl rfl ⟨⟨_, rfl⟩, ⟨_, rfl⟩, trivial⟩ (fun hg37 => Pu_cmp rfl rfl rfl rfl)) rfl (by decide) (by kernel_rfl) (by intro j b oj dj h1 h2 h3; cases h1; cases h2; cases h3; decide) ?_
  refine Al_p (Pu_or rfl rfl rfl rfl) ?_
  refine Al_nil ?_
  refine Aw_cond rfl (fun h38 => ?_) (fun h38 => ?_)
  · skip
    have hno : V.ptext most (s.data.toList.drop at_) = none := by
      simp only [Bool.or_eq_true, Bool.not_eq_true', decide_eq_true_eq] at h38
      unfold V.ptext
      rcases hcs with ⟨h1, h2, h3, h4⟩ | ⟨n, t, h1, h2, h3, h4, h5, h6⟩
      · rw [h4]
      · rw [h4]
        have hl := V.suf_len h6
        rw [h1, h2, h3] at h38
        simp only
        rw [if_neg]
        rintro ⟨k1, k2⟩
        rcases h38 with (((h | h) | h) | h)
        · cases h
        · omega
        · omega
        · omega
    obtain ⟨e1, e2, e3⟩ := V.rt_none hno
    refine Aw_seq (Aw_region ?_)
    refine Al_p Pu_mvr ?_
    refine Al_p Pu_mvr ?_
    refine Al_p Pu_mvr ?_
    refine Al_nil ?_
    refine Aw_ret ?_
    exact ⟨_, _, _, rfl, Sub.str (by rw [e1]), Sub.num (by rw [e2]; rfl), Sub.bool (by rw [e3])⟩ -- ret 0
  · skip
    have hyes : ∃ n t, V.gotN s at_ = n ∧ V.gotE s at_ = s.size - t.length ∧ V.ptext most (s.data.toList.drop at_) = some (t.take n, t.drop n) ∧ n ≤ t.length ∧ t <:+ s.data.toList ∧ n ≤ most := by
      simp only [Bool.or_eq_false_iff, Bool.not_eq_false', decide_eq_false_iff_not] at h38
      obtain ⟨⟨⟨h38, h39⟩, h40⟩, h41⟩ := h38
      rcases hcs with ⟨h1, h2, h3, h4⟩ | ⟨n, t, h1, h2, h3, h4, h5, h6⟩
      · rw [h1] at h38; cases h38
      · have hl := V.suf_len h6
        rw [h2] at h40 h41
        rw [h3] at h41
        refine ⟨n, t, h2, h3, ?_, by omega, h6, by omega⟩
        unfold V.ptext
        rw [h4]
        simp only
        rw [if_pos ⟨by omega, by omega⟩]
    obtain ⟨n, t, k1, k2, k3, k4, k5, k6⟩ := hyes
    have hl := V.suf_len k5
    obtain ⟨e1, e2, e3⟩ := V.rt_some k3
    rw [k1, k2]
    refine Aw_skip (Aw_seq (Aw_region ?_))
    refine Al_p Pu_mvl ?_
    refine Al_p Pu_mvl ?_
    refine Al_p (Pu_conv rfl Try.underlying42 Try.underlying3 rfl (fun hv => i64_nat (by simp only [A.inI]; omega))) ?_
    refine Al_p (Pu_add rfl rfl rfl (fun h1 h2 => by simp only [A.inI, A.maxI] at *; omega)) ?_
    refine Al_p Pu_mvr ?_
    refine Al_nil (Aw_seq (Aw_region ?_))
    refine Al_p Pu_mvl ?_
    refine Al_p Pu_mvl ?_
    refine Al_p Pu_mvl ?_
    refine Al_p (Pu_subS ((s.size - t.length)) ((s.size - t.length + n)) rfl Try.underlying9 rfl ⟨_, rfl, by omega⟩ ⟨_, rfl, by omega⟩ ⟨by omega, by omega⟩) ?_
    refine Al_p Pu_mvl ?_
    refine Al_p Pu_mvr ?_
    refine Al_p Pu_mvr ?_
    refine Al_p Pu_mvr ?_
    refine Al_nil ?_
    refine Aw_ret ?_
    exact ⟨_, _, _, rfl, Sub.str (by rw [e1]; exact V.cut_ba s t n k5 k4), Sub.num (by rw [e2]; simp; omega), Sub.bool (by rw [e3])⟩ -- ret 1
end Go.Proofs.Ytlcahhlghjbnkaa
namespace Go.Proofs.Ytlcahhlghjbnkaa
open Go.RowKit A R
namespace V
abbrev pos (s : ByteArray) (r : List UInt8) : Nat := s.size - r.length
theorem pnum_no {s : ByteArray} {r : List UInt8} {most : Nat} (hr : r <:+ s.data.toList) (h : (gotB s (pos s r) && decide ((gotN s (pos s r) : Int) ≤ (most : Int))) = false) : pnum most r = none := by
  rcases got_cases s (pos s r) with ⟨h1, h2, h3, h4⟩ | ⟨n, t, h1, h2, h3, h4, h5, h6⟩
  · rw [drop_suf hr] at h4
    unfold pnum; rw [h4]
  · rw [drop_suf hr] at h4
    rw [h1, h2] at h
    simp only [Bool.true_and, decide_eq_false_iff_not] at h
    unfold pnum; rw [h4]; simp only
    rw [if_neg (by omega)]
theorem pnum_yes {s : ByteArray} {r : List UInt8} {most : Nat} (hr : r <:+ s.data.toList) (h : (gotB s (pos s r) && decide ((gotN s (pos s r) : Int) ≤ (most : Int))) = true) : ∃ n t, pnum most r = some (n, t) ∧ gotN s (pos s r) = n ∧ gotE s (pos s r) = pos s t ∧ t <:+ s.data.toList ∧ n ≤ most := by
  rcases got_cases s (pos s r) with ⟨h1, h2, h3, h4⟩ | ⟨n, t, h1, h2, h3, h4, h5, h6⟩
  · rw [h1] at h; cases h
  · rw [drop_suf hr] at h4
    rw [h1, h2] at h
    simp only [Bool.true_and, decide_eq_true_eq] at h
    refine ⟨n, t, ?_, h2, h3, h6, by omega⟩
    unfold pnum; rw [h4]; simp only
    rw [if_pos (by omega)]
theorem ptext_no {s : ByteArray} {r : List UInt8} {most : Nat} (hr : r <:+ s.data.toList) (h : rtB s (pos s r) most = false) : ptext most r = none := by
  unfold rtB at h
  rw [drop_suf hr] at h
  simpa using h
theorem ptext_yes {s : ByteArray} {r : List UInt8} {most : Nat} (hm : most < 18446744073709551616) (hr : r <:+ s.data.toList) (h : rtB s (pos s r) most = true) : ∃ x t, ptext most r = some (x, t) ∧ rtT s (pos s r) most = ba x ∧ rtE s (pos s r) most = pos s t ∧ t <:+ s.data.toList ∧ x.length ≤ most := by
  unfold rtB at h
  rw [drop_suf hr] at h
  obtain ⟨⟨x, t⟩, hx⟩ := Option.isSome_iff_exists.1 h
  obtain ⟨h1, h2⟩ := (ptext_iff hm).1 hx
  unfold rtT rtE
  rw [drop_suf hr, hx]
  exact ⟨x, t, rfl, rfl, rfl, suf_app (p := text (ba x)) (by rw [← h2]; exact hr), h1⟩
theorem data_ba (l : List UInt8) : (ba l).data.toList = l := by simp [ba]
theorem toList_eq {s t : ByteArray} (h : (s.toList == t.toList) = true) : s = t := by
  rw [Lib.toList_data, Lib.toList_data] at h
  have : s.data.toList = t.data.toList := by simpa using h
  rw [← ba_data s, this, ba_data]
end V
end Go.Proofs.Ytlcahhlghjbnkaa
end

section
namespace Go.Proofs.Ytlcahhlghjbnkaa.A
open Go Go.RowKit
theorem Pu_int_rem {P : Program} {st : ASt} {o : Oper} {t yt : TypeId} {x y : Operand} {k : IntKind} {a b r : Int} (ho : o.op = .binOp .rem t x y yt) (hx : st.ev x = .d (.v (.int k a))) (hy : st.ev y = .d (.v (.int k b))) (hb : b ≠ 0) (hr : a.tmod b = r) (hv : vok (.int k a) → vok (.int k r)) : Pu P st o (.d (.v (.int k r))) :=
  Pu_bin ho hx hy (fun h1 h2 w => by
    simp only [Sem.run_bind, guard_int, Result.andThen_ok, binOp]; simp [Op.intDiv, hb, hr, Sem.run]) (fun h _ => hv h)
end Go.Proofs.Ytlcahhlghjbnkaa.A
namespace Go.Proofs.Ytlcahhlghjbnkaa
open Go.RowKit A R
namespace V
abbrev two64 : Nat := 18446744073709551616
theorem wrap_u64 (n : Nat) : IntKind.u64.wrap ((n : Nat) : Int) = ((n % two64 : Nat) : Int) := by
  rw [IntKind.wrap_u64]; show _ = ((n % 18446744073709551616 : Nat) : Int); omega
/-- The bytes that were read are the number's own, just if it is read so. -/
theorem rd_check {r t : List UInt8} {c : UInt8} {k acc : Nat} (hk : k ≤ 9) (hdr : r.drop k = c :: t) (hc : c.toNat < 128) (hacc : acc < 128 ^ k) (h : rdB r = comb k acc (rd (c :: t))) : (num ((acc + 128 ^ k * c.toNat) % two64) = r.take (k + 1)) ↔ rdB r = some ((acc + 128 ^ k * c.toNat) % two64, t) := by
  have hsplit : r = r.take (k + 1) ++ t := by
    have h1 : r.drop (k + 1) = t := by
      rw [← List.drop_drop, hdr]; rfl
    rw [← h1, List.take_append_drop]
  constructor
  · intro e
    rw [hsplit, ← e]
    exact rdB_num (Nat.mod_lt _ (by decide)) t
  · intro e
    have e2 := e
    rw [h, comb_last hc] at e2
    split at e2
    · have := (rdB_suf e).2
      rw [hsplit] at this
      exact (List.append_cancel_right this).symm
    · cases e2
theorem rd_eqb (l : List UInt8) (s : ByteArray) (a k : Nat) : ((ba l).toList == (s.extract a (a + k + 1)).toList) = (l == (s.data.toList.drop a).take (k + 1)) := by
  rw [Lib.toList_data, Lib.toList_data, data_ba, ByteArray.data_extract, Array.toList_extract]
  simp only [List.extract]
  rw [show a + k + 1 - a = k + 1 from by omega]
theorem pow_small {k : Nat} (hk : k ≤ 9) : 128 ^ k ≤ 9223372036854775808 := by
  have : (128 : Nat) ^ k ≤ 128 ^ 9 := Nat.pow_le_pow_right (by omega) hk
  omega
theorem gotE_pos {s : ByteArray} {at_ : Nat} : gotE s at_ = 0 ↔ rdB (s.data.toList.drop at_) = none := by
  constructor
  · intro h
    cases hr : rdB (s.data.toList.drop at_) with
    | none => rfl
    | some x =>
      exfalso
      obtain ⟨n, t⟩ := x
      obtain ⟨_, e2, _⟩ := got_some hr
      have h1 := (rdB_suf hr).2
      have h2 := congrArg List.length h1
      rw [List.length_append, List.length_drop, Array.length_toList] at h2
      have := num_pos n
      rw [e2] at h
      have hs : s.data.size = s.size := rfl
      omega
  · exact fun h => (got_none h).2.1
end V
set_option maxRecDepth 100000 in
set_option maxHeartbeats 2000000 in
theorem rread_a (s : ByteArray) (at_ : Nat) (hs : s.size ≤ 1000000) (ha : at_ ≤ s.size) : ACall Try.prog 41 [tv s, iv at_] (.row [uv (V.gotN s at_), iv (V.gotE s at_)]) := by
  refine ACall_enterG (fun _ _ => by kernel_rfl) Try.func41 rfl Try.ntmps41 (Reads.cN Try.results41 Try.isAgg72 Try.sizeOf72) (Nat.le_of_ble_eq_true rfl) (fun hok M0 w0 hnl => ?_)
  refine Aw_seq (Aw_region ?_)
  refine Al_alloc rfl rfl rfl (by decide) Try.zeroValue72 rfl (by kernel_rfl) (fun g4 => ?_)
  refine Al_nil (Aw_seq (Aw_seq (Aw_region ?_)))
  refine Al_p Pu_mvl ?_
  refine Al_p (Pu_cmp rfl rfl rfl rfl) ?_
  refine Al_nil ?_
  refine Aw_cond rfl (fun h10 => ?_) (fun h10 => ?_)
  · (try simp only [decide_eq_true_eq, decide_eq_false_iff_not, Bool.and_eq_true, Bool.or_eq_true, Bool.and_eq_false_iff, Bool.or_eq_false_iff, Bool.not_eq_true', Bool.not_eq_false', beq_iff_eq, Bool.not_eq_eq_eq_not, Bool.not_true, Bool.not_false, List.length_map, Bool.and_true, Bool.and_false, Bool.false_and, Bool.true_and, Bool.or_false, Bool.false_or] at h10)
    exfalso; omega
  · (try simp only [decide_eq_true_eq, decide_eq_false_iff_not, Bool.and_eq_true, Bool.or_eq_true, Bool.and_eq_false_iff, Bool.or_eq_false_iff, Bool.not_eq_true', Bool.not_eq_false', beq_iff_eq, Bool.not_eq_eq_eq_not, Bool.not_true, Bool.not_false, List.length_map, Bool.and_true, Bool.and_false, Bool.false_and, Bool.true_and, Bool.or_false, Bool.false_or] at h10)
    refine Aw_skip (Aw_seq (Aw_region ?_))
    refine Al_p Pu_mvr ?_
    refine Al_nil (Aw_seq (Aw_region ?_))
    refine Al_p Pu_mvr ?_
    refine Al_nil (Aw_seq (Aw_seq (Aw_region ?_)))
    refine Al_p Pu_mvl ?_
    refine Al_p Pu_mvr ?_
    refine Al_nil (Aw_block ?_)
    refine Aw_loopk (ι := Nat × Nat) [0, 1, 4] [4] (fun (k, acc) => [(7, .d (iv ((at_ + k : Nat) : Int))), (5, .d (uv ((acc % V.two64 : Nat) : Int))), (6, .d (uv ((128 ^ k % V.two64 : Nat) : Int)))]) (fun (k, acc) => []) (fun (k, acc) => k ≤ 10 ∧ at_ + k ≤ s.size ∧ acc < 128 ^ k ∧ V.rdB (s.data.toList.drop at_) = V.comb k acc (V.rd (s.data.toList.drop (at_ + k)))) (fun (k, acc) => s.size - (at_ + k)) (0, 0) (⟨by omega, by omega, by simp, rfl⟩) ⟨Sub.num (by omega), Sub.rfl, Sub.rfl, trivial⟩ trivial ?_
    rintro ⟨k, acc⟩ ⟨hk10, hk1, hk3, hk4⟩
    refine Aw_seq (Aw_seq (Aw_region ?_))
    refine Al_p Pu_mvl ?_
    refine Al_p Pu_mvl ?_
    refine Al_p (Pu_lenS rfl Try.underlying9 rfl) ?_
    refine Al_p (Pu_cmp rfl rfl rfl rfl) ?_
    refine Al_p Pu_mvl ?_
    refine Al_st (St_gd [] rfl rfl rfl rfl trivial (fun hg18 => by exact Pu_move (.inl rfl) (by conv => lhs; whnf))) rfl (by decide) (by kernel_rfl) (by intro j b oj dj h1 h2 h3; cases h1; cases h2; cases h3; decide) ?_
    refine Al_st (St_gd [] rfl rfl rfl rfl trivial (fun hg19 => by exact Pu_move (.inl rfl) (by conv => lhs; whnf))) rfl (by decide) (by kernel_rfl) (by intro j b oj dj h1 h2 h3; cases h1; cases h2; cases h3; decide) ?_
    refine Al_st (St_gd [19] rfl rfl rfl rfl ⟨⟨_, rfl⟩, trivial⟩ (fun hg20 => by exact Pu_add rfl rfl rfl (fun h1 h2 => by simp only [A.inI, A.maxI] at *; omega))) rfl (by decide) (by kernel_rfl) (by intro j b oj dj h1 h2 h3; cases h1; cases h2; cases h3; decide) ?_
    refine Al_st (St_gd [18, 20] rfl rfl rfl rfl ⟨⟨_, rfl⟩, ⟨_, rfl⟩, trivial⟩ (fun hg21 => Pu_cmp rfl rfl rfl rfl)) rfl (by decide) (by kernel_rfl) (by intro j b oj dj h1 h2 h3; cases h1; cases h2; cases h3; decide) ?_
    refine Al_p (Pu_and rfl rfl rfl rfl) ?_
    refine Al_nil ?_
    refine Aw_cond rfl (fun h22 => ?_) (fun h22 => ?_)
    · (try simp only [decide_eq_true_eq, decide_eq_false_iff_not, Bool.and_eq_true, Bool.or_eq_true, Bool.and_eq_false_iff, Bool.or_eq_false_iff, Bool.not_eq_true', Bool.not_eq_false', beq_iff_eq, Bool.not_eq_eq_eq_not, Bool.not_true, Bool.not_false, List.length_map, Bool.and_true, Bool.and_false, Bool.false_and, Bool.true_and, Bool.or_false, Bool.false_or] at h22)
      obtain ⟨h22a, h22b⟩ := h22
      have hi : at_ + k < s.size := by omega
      have hk9 : k ≤ 9 := by omega
      have hdr : s.data.toList.drop (at_ + k) = s[at_ + k] :: s.data.toList.drop (at_ + k + 1) := by
        rw [List.drop_eq_getElem_cons (by simpa using hi)]; rfl
      rw [hdr] at hk4
      have hcl := UInt8.toNat_lt s[at_ + k]
      have hp9 := V.pow_small hk9
      have q31 : ((s[at_ + k].toNat : Nat) : Int).tmod 128 = ((s[at_ + k].toNat % 128 : Nat) : Int) := by
        rw [Int.tmod_eq_emod_of_nonneg (by omega)]; omega
      have q33 : IntKind.u64.wrap (((s[at_ + k].toNat % 128 : Nat) : Int) * ((128 ^ k % V.two64 : Nat) : Int)) = (((128 ^ k * (s[at_ + k].toNat % 128)) % V.two64 : Nat) : Int) := by
        rw [← Int.natCast_mul, V.wrap_u64, Nat.mul_mod_mod, Nat.mul_comm]
      have q34 : IntKind.u64.wrap (((acc % V.two64 : Nat) : Int) + (((128 ^ k * (s[at_ + k].toNat % 128)) % V.two64 : Nat) : Int)) = (((acc + 128 ^ k * (s[at_ + k].toNat % 128)) % V.two64 : Nat) : Int) := by
        rw [← Int.natCast_add, V.wrap_u64, ← Nat.add_mod]
      have q36 : IntKind.u64.wrap (((128 ^ k % V.two64 : Nat) : Int) * 128) = ((128 ^ (k + 1) % V.two64 : Nat) : Int) := by
        rw [show (128 : Int) = ((128 : Nat) : Int) from rfl, ← Int.natCast_mul, V.wrap_u64, Nat.mod_mul_mod, Nat.pow_succ]
      have u64k : ∀ n : Nat, vok (.int .u64 ((n % V.two64 : Nat) : Int)) := fun n => by
        have := Nat.mod_lt n (show V.two64 > 0 by decide)
        exact ⟨Int.natCast_nonneg _, Int.ofNat_le.2 (Nat.le_of_lt_succ this)⟩
      refine Aw_skip (Aw_seq (Aw_block (Aw_seq (Aw_region ?_))))
      refine Al_p Pu_mvl ?_
      refine Al_p Pu_mvl ?_
      refine Al_p (Pu_indexS rfl Try.underlying9 rfl rfl (rfl) (getS hi)) ?_
      refine Al_p (Pu_conv rfl Try.underlying5 Try.underlying42 rfl (fun hv => u64_nat (by omega) (by simp only [vok, A.inI] at hv; omega))) ?_
      refine Al_p Pu_mvr ?_
      refine Al_nil (Aw_seq (Aw_region ?_))
      refine Al_p Pu_mvl ?_
      refine Al_p Pu_mvl ?_
      refine Al_p (Pu_int_rem rfl rfl rfl (by omega) q31 (fun _ => by constructor <;> omega)) ?_
      refine Al_p Pu_mvl ?_
      refine Al_p (Pu_int_mul rfl rfl rfl q33 (fun _ => u64k _)) ?_
      refine Al_p (Pu_int_add rfl rfl rfl q34 (fun _ => u64k _)) ?_
      refine Al_p Pu_mvr ?_
      refine Al_nil (Aw_seq (Aw_region ?_))
      refine Al_p Pu_mvl ?_
      refine Al_p (Pu_int_mul rfl rfl rfl q36 (fun _ => u64k _)) ?_
      refine Al_p Pu_mvr ?_
      refine Al_nil (Aw_seq (Aw_region ?_))
      refine Al_p Pu_mvl ?_
      refine Al_p (Pu_cmp rfl rfl rfl rfl) ?_
      refine Al_nil ?_
      refine Aw_cond rfl (fun h38 => ?_) (fun h38 => ?_)
      · (try simp only [decide_eq_true_eq, decide_eq_false_iff_not, Bool.and_eq_true, Bool.or_eq_true, Bool.and_eq_false_iff, Bool.or_eq_false_iff, Bool.not_eq_true', Bool.not_eq_false', beq_iff_eq, Bool.not_eq_eq_eq_not, Bool.not_true, Bool.not_false, List.length_map, Bool.and_true, Bool.and_false, Bool.false_and, Bool.true_and, Bool.or_false, Bool.false_or] at h38)
        have hsm : s[at_ + k].toNat < 128 := by omega
        have hmo : s[at_ + k].toNat % 128 = s[at_ + k].toNat := Nat.mod_eq_of_lt hsm
        have hmt := Nat.mod_lt (acc + 128 ^ k * (s[at_ + k].toNat % 128)) (show V.two64 > 0 by decide)
        have hchk := V.rd_check (r := s.data.toList.drop at_) (k := k) hk9 (by rw [List.drop_drop]; exact hdr) hsm hk3 hk4
        refine Aw_seq (Aw_seq ?_)
        refine Aw_draw 8 (by kernel_rfl) (by kernel_rfl) ?_
        refine Dr_p Pu_mvl ?_
        refine Dr_p (Pu_call (rnumber_a ((acc + 128 ^ k * (s[at_ + k].toNat % 128)) % V.two64) hmt) rfl ⟨Sub.rfl, trivial⟩) ?_
        refine Dr_p Pu_mvl ?_
        refine Dr_p Pu_mvl ?_
        refine Dr_p Pu_mvl ?_
        refine Dr_p (Pu_add rfl rfl rfl (fun h1 h2 => by simp only [A.inI, A.maxI] at *; omega)) ?_
        refine Dr_p (Pu_subS (at_) (at_ + k + 1) rfl Try.underlying9 rfl ⟨_, rfl, by omega⟩ ⟨_, rfl, by omega⟩ ⟨by first | omega | (simp; omega), by first | omega | (simp; omega)⟩) ?_
        refine Dr_p (Pu_str rfl rfl rfl rfl) ?_
        refine Dr_nil (Al_nil ?_)
        refine Aw_cond rfl (fun h46 => ?_) (fun h46 => ?_)
        · skip
          have hno : V.rdB (s.data.toList.drop at_) = none := by
            rw [V.rd_eqb] at h46
            rw [hmo] at h46
            have hne : ¬ V.num ((acc + 128 ^ k * s[at_ + k].toNat) % V.two64) = (s.data.toList.drop at_).take (k + 1) := by
              intro e; rw [e] at h46; simp at h46
            have hc := V.comb_last (k := k) (acc := acc) (t := s.data.toList.drop (at_ + k + 1)) hsm
            cases hr : V.rdB (s.data.toList.drop at_) with
            | none => rfl
            | some x =>
              exfalso
              rw [← hk4, hr] at hc
              split at hc
              · rename_i hh
                refine hne (hchk.2 ?_)
                rw [hr, hc, Nat.mod_eq_of_lt hh.2]
              · cases hc
          obtain ⟨e1, e2, e3⟩ := V.got_none hno
          refine Aw_seq (Aw_region ?_)
          refine Al_p (Pu_build (aa := []) rfl Try.underlying72 Try.zeroValue72 (places72 Try.underlying72) (by kernel_rfl) trivial rfl) ?_
          refine Al_storeN rfl rfl rfl (by kernel_rfl) Try.isAgg72 Try.sizeOf72 rfl rfl rfl rfl (Nat.le_of_ble_eq_true rfl) ?_
          refine Al_nil ?_
          refine Aw_ret ?_
          exact ⟨_, _, _, _, _, [_, _], rfl, rfl, rfl, rfl, by rw [e1, e2]; rfl⟩ -- ret 0
        · skip
          have hyes : V.rdB (s.data.toList.drop at_) = some ((acc + 128 ^ k * (s[at_ + k].toNat % 128)) % V.two64, s.data.toList.drop (at_ + k + 1)) := by
            rw [V.rd_eqb] at h46
            rw [hmo] at h46 ⊢
            refine hchk.1 ?_
            simpa using h46
          obtain ⟨e1, e2, e3⟩ := V.got_some hyes
          have elen : (s.data.toList.drop (at_ + k + 1)).length = s.size - (at_ + k + 1) := by rw [List.length_drop]; rfl
          refine Aw_skip (Aw_seq (Aw_region ?_))
          refine Al_p Pu_mvl ?_
          refine Al_p Pu_mvl ?_
          refine Al_p (Pu_add rfl rfl rfl (fun h1 h2 => by simp only [A.inI, A.maxI] at *; omega)) ?_
          refine Al_p (Pu_build (aa := [(0, _), (1, _)]) rfl Try.underlying72 Try.zeroValue72 (places72 Try.underlying72) (by kernel_rfl) ⟨rfl, rfl, rfl, rfl, rfl, rfl, trivial⟩ rfl) ?_
          refine Al_storeN rfl rfl rfl (by kernel_rfl) Try.isAgg72 Try.sizeOf72 rfl rfl rfl rfl (Nat.le_of_ble_eq_true rfl) ?_
          refine Al_nil ?_
          refine Aw_ret ?_
          exact ⟨_, _, _, _, _, [_, _], rfl, rfl, rfl, rfl, by rw [e1, e2, elen, show ((s.size - (s.size - (at_ + k + 1)) : Nat) : Int) = ((at_ + k : Nat) : Int) + 1 from by omega]⟩ -- ret 1
      · (try simp only [decide_eq_true_eq, decide_eq_false_iff_not, Bool.and_eq_true, Bool.or_eq_true, Bool.and_eq_false_iff, Bool.or_eq_false_iff, Bool.not_eq_true', Bool.not_eq_false', beq_iff_eq, Bool.not_eq_eq_eq_not, Bool.not_true, Bool.not_false, List.length_map, Bool.and_true, Bool.and_false, Bool.false_and, Bool.true_and, Bool.or_false, Bool.false_or] at h38)
        have hbg : 128 ≤ s[at_ + k].toNat := by omega
        have hmo : s[at_ + k].toNat % 128 = s[at_ + k].toNat - 128 := by omega
        have hacc : acc + 128 ^ k * (s[at_ + k].toNat % 128) < 128 ^ (k + 1) := by
          have h1 : 128 ^ k * (s[at_ + k].toNat % 128) ≤ 128 ^ k * 127 := Nat.mul_le_mul_left _ (by omega)
          rw [Nat.pow_succ]; omega
        refine Aw_skip (Aw_region ?_)
        refine Al_p Pu_mvl ?_
        refine Al_p (Pu_add rfl rfl rfl (fun h1 h2 => by simp only [A.inI, A.maxI] at *; omega)) ?_
        refine Al_p Pu_mvr ?_
        refine Al_nil ?_
        exact ⟨(k + 1, acc + 128 ^ k * (s[at_ + k].toNat % 128)), ⟨by omega, by omega, hacc, by rw [hk4, V.comb_more hbg, hmo]; rfl⟩, by simp only []; omega, Le.ov ⟨Sub.num (by omega), Sub.rfl, Sub.rfl, trivial⟩ ⟨Sub.rfl, Sub.rfl, Sub.rfl, trivial⟩ trivial ⟨rfl, trivial⟩⟩ -- loop 0 next.0
    · (try simp only [decide_eq_true_eq, decide_eq_false_iff_not, Bool.and_eq_true, Bool.or_eq_true, Bool.and_eq_false_iff, Bool.or_eq_false_iff, Bool.not_eq_true', Bool.not_eq_false', beq_iff_eq, Bool.not_eq_eq_eq_not, Bool.not_true, Bool.not_false, List.length_map, Bool.and_true, Bool.and_false, Bool.false_and, Bool.true_and, Bool.or_false, Bool.false_or] at h22)
      have hno : V.rdB (s.data.toList.drop at_) = none := by
        rcases Nat.lt_or_ge k 10 with hk | hk
        · rw [hk4, List.drop_eq_nil_of_le (by show s.size ≤ _; omega)]; rfl
        · rw [hk4]; exact V.comb_far hk _
      obtain ⟨e1, e2, e3⟩ := V.got_none hno
      refine Aw_exit (Aw_seq (Aw_region ?_))
      refine Al_p (Pu_build (aa := []) rfl Try.underlying72 Try.zeroValue72 (places72 Try.underlying72) (by kernel_rfl) trivial rfl) ?_
      refine Al_storeN rfl rfl rfl (by kernel_rfl) Try.isAgg72 Try.sizeOf72 rfl rfl rfl rfl (Nat.le_of_ble_eq_true rfl) ?_
      refine Al_nil ?_
      refine Aw_ret ?_
      exact ⟨_, _, _, _, _, [_, _], rfl, rfl, rfl, rfl, by rw [e1, e2]; rfl⟩ -- ret 2
namespace V
end V
set_option maxRecDepth 100000 in
theorem rreadtext_a (s : ByteArray) (at_ most : Nat) (hs : s.size ≤ 1000000) (ha : at_ ≤ s.size) (hm : most ≤ 1000000) : ACall Try.prog 42 [tv s, iv at_, iv most] (.row [tv (V.rtT s at_ most), iv (V.rtE s at_ most)]) := by
  refine ACall_enterG (fun _ _ => by kernel_rfl) Try.func42 rfl Try.ntmps42 (Reads.cN Try.results42 Try.isAgg75 Try.sizeOf75) (Nat.le_of_ble_eq_true rfl) (fun hok M0 w0 hnl => ?_)
  have hcs := V.got_cases s at_
  have hE : V.gotE s at_ ≤ s.size := by
    rcases hcs with ⟨_, _, h, _⟩ | ⟨n, t, _, _, h, _⟩ <;> omega
  have hN : V.gotN s at_ < 18446744073709551616 := by
    rcases hcs with ⟨_, h, _, _⟩ | ⟨n, t, _, h, _, _, h2, _⟩ <;> omega
  refine Aw_seq (Aw_region ?_)
  refine Al_alloc rfl rfl rfl (by decide) Try.zeroValue75 rfl (by kernel_rfl) (fun g6 => ?_)
  refine Al_nil (Aw_seq (Aw_region ?_))
  refine Al_p Pu_mvl ?_
  refine Al_p Pu_mvl ?_
  refine Al_p (Pu_call (rread_a s at_ hs ha) rfl ⟨Sub.rfl, Sub.rfl, trivial⟩) ?_
  refine Al_alloc rfl rfl rfl (by decide) Try.zeroValue72 rfl (by kernel_rfl) (fun g7 => ?_)
  refine Al_storeN rfl rfl rfl (by kernel_rfl) Try.isAgg72 Try.sizeOf72 rfl rfl rfl rfl (Nat.le_of_ble_eq_true rfl) ?_
  refine Al_nil (Aw_seq (Aw_seq (Aw_region ?_)))
  refine Al_p (Pu_fieldb 1 rfl Try.underlying72 rfl rfl Try.sizeOf3 rfl) ?_
  refine Al_p (Pu_loadb rfl Try.isAgg3 rfl rfl rfl) ?_
  refine Al_p (Pu_cmp rfl rfl rfl rfl) ?_
  refine Al_p Pu_mvl ?_
  refine Al_st (St_gd [] rfl rfl rfl rfl trivial (fun hg16 => by exact Pu_move (.inl rfl) (by conv => lhs; whnf))) rfl (by decide) (by kernel_rfl) (by intro j b oj dj h1 h2 h3; cases h1; cases h2; cases h3; decide) ?_
  refine Al_st (St_gd [16] rfl rfl rfl rfl ⟨⟨_, rfl⟩, trivial⟩ (fun hg17 => Pu_cmp rfl rfl rfl rfl)) rfl (by decide) (by kernel_rfl) (by intro j b oj dj h1 h2 h3; cases h1; cases h2; cases h3; decide) ?_
  refine Al_p (Pu_or rfl rfl rfl rfl) ?_
  refine Al_p Pu_mvl ?_
  refine Al_st (St_gd [] rfl rfl rfl rfl trivial (fun hg20 => Pu_fieldb 0 rfl Try.underlying72 rfl rfl Try.sizeOf42 rfl)) rfl (by decide) (by kernel_rfl) (by intro j b oj dj h1 h2 h3; cases h1; cases h2; cases h3; decide) ?_
  refine Al_st (St_gd [20] rfl rfl rfl rfl ⟨⟨_, rfl⟩, trivial⟩ (fun hg21 => Pu_loadb rfl Try.isAgg42 rfl rfl rfl)) rfl (by decide) (by kernel_rfl) (by intro j b oj dj h1 h2 h3; cases h1; cases h2; cases h3; decide) ?_
  refine Al_st (St_gd [] rfl rfl rfl rfl trivial (fun hg22 => by exact Pu_move (.inl rfl) (by conv => lhs; whnf))) rfl (by decide) (by kernel_rfl) (by intro j b oj dj h1 h2 h3; cases h1; cases h2; cases h3; decide) ?_
  refine Al_st (St_gd [22] rfl rfl rfl rfl ⟨⟨_, rfl⟩, trivial⟩ (fun hg23 => by exact Pu_conv rfl Try.underlying3 Try.underlying42 rfl (fun hv => u64_nat (by omega) (by simp only [vok, A.inI] at hv; omega)))) rfl (by decide) (by kernel_rfl) (by intro j b oj dj h1 h2 h3; cases h1; cases h2; cases h3; decide) ?_
  refine Al_st (St_gd [21, 23] rfl rfl rfl rfl ⟨⟨_, rfl⟩, ⟨_, rfl⟩, trivial⟩ (fun hg24 => Pu_cmp rfl rfl rfl rfl)) rfl (by decide) (by kernel_rfl) (by intro j b oj dj h1 h2 h3; cases h1; cases h2; cases h3; decide) ?_
  refine Al_p (Pu_or rfl rfl rfl rfl) ?_
  refine Al_p Pu_mvl ?_
  refine Al_st (St_gd [] rfl rfl rfl rfl trivial (fun hg27 => Pu_fieldb 0 rfl Try.underlying72 rfl rfl Try.sizeOf42 rfl)) rfl (by decide) (by kernel_rfl) (by intro j b oj dj h1 h2 h3; cases h1; cases h2; cases h3; decide) ?_
  refine Al_st (St_gd [27] rfl rfl rfl rfl ⟨⟨_, rfl⟩, trivial⟩ (fun hg28 => Pu_loadb rfl Try.isAgg42 rfl rfl rfl)) rfl (by decide) (by kernel_rfl) (by intro j b oj dj h1 h2 h3; cases h1; cases h2; cases h3; decide) ?_
  refine Al_st (St_gd [] rfl rfl rfl rfl trivial (fun hg29 => by exact Pu_move (.inl rfl) (by conv => lhs; whnf))) rfl (by decide) (by kernel_rfl) (by intro j b oj dj h1 h2 h3; cases h1; cases h2; cases h3; decide) ?_
  refine Al_st (St_gd [29] rfl rfl rfl rfl ⟨⟨_, rfl⟩, trivial⟩ (fun hg30 => Pu_lenS rfl Try.underlying9 rfl)) rfl (by decide) (by kernel_rfl) (by intro j b oj dj h1 h2 h3; cases h1; cases h2; cases h3; decide) ?_
  refine Al_st (St_gd [] rfl rfl rfl rfl trivial (fun hg31 => Pu_fieldb 1 rfl Try.underlying72 rfl rfl Try.sizeOf3 rfl)) rfl (by decide) (by kernel_rfl) (by intro j b oj dj h1 h2 h3; cases h1; cases h2; cases h3; decide) ?_
  refine Al_st (St_gd [31] rfl rfl rfl rfl ⟨⟨_, rfl⟩, trivial⟩ (fun hg32 => Pu_loadb rfl Try.isAgg3 rfl rfl rfl)) rfl (by decide) (by kernel_rfl) (by intro j b oj dj h1 h2 h3; cases h1; cases h2; cases h3; decide) ?_
  refine Al_st (St_gd [30, 32] rfl rfl rfl rfl ⟨⟨_, rfl⟩, ⟨_, rfl⟩, trivial⟩ (fun hg33 => by exact Pu_sub rfl rfl rfl (fun h1 h2 => by simp only [A.inI, A.maxI] at *; omega))) rfl (by decide) (by kernel_rfl) (by intro j b oj dj h1 h2 h3; cases h1; cases h2; cases h3; decide) ?_
  refine Al_st (St_gd [33] rfl rfl rfl rfl ⟨⟨_, rfl⟩, trivial⟩ (fun hg34 => by exact Pu_conv rfl Try.underlying3 Try.underlying42 rfl (fun hv => u64_nat (by omega) (by omega)))) rfl (by decide) (by kernel_rfl) (by intro j b oj dj h1 h2 h3; cases h1; cases h2; cases h3; decide) ?_
  refine Al_st (St_gd [28, 34] rfl rfl rfl rfl ⟨⟨_, rfl⟩, ⟨_, rfl⟩, trivial⟩ (fun hg35 => Pu_cmp rfl rfl rfl rfl)) rfl (by decide) (by kernel_rfl) (by intro j b oj dj h1 h2 h3; cases h1; cases h2; cases h3; decide) ?_
  refine Al_p (Pu_or rfl rfl rfl rfl) ?_
  refine Al_nil ?_
  refine Aw_cond rfl (fun h36 => ?_) (fun h36 => ?_)
  · skip
    have hno : V.ptext most (s.data.toList.drop at_) = none := by
      simp only [Bool.or_eq_true, decide_eq_true_eq] at h36
      unfold V.ptext
      rcases hcs with ⟨h1, h2, h3, h4⟩ | ⟨n, t, h1, h2, h3, h4, h5, h6⟩
      · rw [h4]
      · have hz : ¬ V.gotE s at_ = 0 := fun e => by rw [V.gotE_pos, h4] at e; cases e
        rw [h4]
        have hl := V.suf_len h6
        rw [h2, h3] at h36
        rw [h3] at hz
        simp only
        rw [if_neg]
        rintro ⟨k1, k2⟩
        omega
    obtain ⟨e1, e2, e3⟩ := V.rt_none hno
    refine Aw_seq (Aw_region ?_)
    refine Al_p (Pu_build (aa := []) rfl Try.underlying75 Try.zeroValue75 (places75 Try.underlying75) (by kernel_rfl) trivial rfl) ?_
    refine Al_storeN rfl rfl rfl (by kernel_rfl) Try.isAgg75 Try.sizeOf75 rfl rfl rfl rfl (Nat.le_of_ble_eq_true rfl) ?_
    refine Al_nil ?_
    refine Aw_ret ?_
    exact ⟨_, _, _, _, _, [_, _], rfl, rfl, rfl, rfl, by rw [e1, e2]; rfl⟩ -- ret 0
  · skip
    have hyes : ∃ n t, V.gotN s at_ = n ∧ V.gotE s at_ = s.size - t.length ∧ V.ptext most (s.data.toList.drop at_) = some (t.take n, t.drop n) ∧ n ≤ t.length ∧ t <:+ s.data.toList ∧ n ≤ most := by
      simp only [Bool.or_eq_false_iff, decide_eq_false_iff_not] at h36
      obtain ⟨⟨⟨h38, h39⟩, h40⟩, h41⟩ := h36
      rcases hcs with ⟨h1, h2, h3, h4⟩ | ⟨n, t, h1, h2, h3, h4, h5, h6⟩
      · exact absurd (by rw [h3]; rfl) h38
      · have hl := V.suf_len h6
        rw [h2] at h40 h41
        rw [h3] at h41
        refine ⟨n, t, h2, h3, ?_, by omega, h6, by omega⟩
        unfold V.ptext
        rw [h4]
        simp only
        rw [if_pos ⟨by omega, by omega⟩]
    obtain ⟨n, t, k1, k2, k3, k4, k5, k6⟩ := hyes
    have hl := V.suf_len k5
    obtain ⟨e1, e2, e3⟩ := V.rt_some k3
    rw [k1, k2]
    refine Aw_skip (Aw_seq (Aw_region ?_))
    refine Al_p (Pu_fieldb 1 rfl Try.underlying72 rfl rfl Try.sizeOf3 rfl) ?_
    refine Al_p (Pu_loadb rfl Try.isAgg3 rfl rfl rfl) ?_
    refine Al_p (Pu_fieldb 0 rfl Try.underlying72 rfl rfl Try.sizeOf42 rfl) ?_
    refine Al_p (Pu_loadb rfl Try.isAgg42 rfl rfl rfl) ?_
    refine Al_p (Pu_conv rfl Try.underlying42 Try.underlying3 rfl (fun hv => i64_nat (by simp only [A.inI]; omega))) ?_
    refine Al_p (Pu_add rfl rfl rfl (fun h1 h2 => by simp only [A.inI, A.maxI] at *; omega)) ?_
    refine Al_p Pu_mvr ?_
    refine Al_nil (Aw_seq (Aw_region ?_))
    refine Al_p Pu_mvl ?_
    refine Al_p (Pu_fieldb 1 rfl Try.underlying72 rfl rfl Try.sizeOf3 rfl) ?_
    refine Al_p (Pu_loadb rfl Try.isAgg3 rfl rfl rfl) ?_
    refine Al_p Pu_mvl ?_
    refine Al_p (Pu_subS ((s.size - t.length)) ((s.size - t.length + n)) rfl Try.underlying9 rfl ⟨_, rfl, by omega⟩ ⟨_, rfl, by omega⟩ ⟨by omega, by omega⟩) ?_
    refine Al_p Pu_mvl ?_
    refine Al_p (Pu_build (aa := [(0, _), (1, _)]) rfl Try.underlying75 Try.zeroValue75 (places75 Try.underlying75) (by kernel_rfl) ⟨rfl, rfl, rfl, rfl, rfl, rfl, trivial⟩ rfl) ?_
    refine Al_storeN rfl rfl rfl (by kernel_rfl) Try.isAgg75 Try.sizeOf75 rfl rfl rfl rfl (Nat.le_of_ble_eq_true rfl) ?_
    refine Al_nil ?_
    refine Aw_ret ?_
    exact ⟨_, _, _, _, _, [_, _], rfl, rfl, rfl, rfl, by rw [e1, e2, V.cut_ba s t n k5 k4, List.length_drop, show s.size - (t.length - n) = s.size - t.length + n from by omega]; rfl⟩ -- ret 1
end Go.Proofs.Ytlcahhlghjbnkaa
end

section
namespace Go.Proofs.Ytlcahhlghjbnkaa.A
open Go Go.RowKit
theorem flat_take {α : Type} {n : Nat} : ∀ {rows : List (List α)} (h : ∀ r ∈ rows, r.length = n) (k : Nat), (rows.take k).flatten = rows.flatten.take (k * n)
  | [], _, k => by simp
  | r :: rs, h, 0 => by simp
  | r :: rs, h, k + 1 => by
    have hr := h r (by simp)
    have ih := flat_take (rows := rs) (fun q hq => h q (by simp [hq])) k
    simp only [List.take_succ_cons, List.flatten_cons, ih]
    rw [show (k + 1) * n = r.length + k * n from by rw [hr, Nat.add_mul]; omega, List.take_length_add_append]
theorem flat_drop {α : Type} {n : Nat} : ∀ {rows : List (List α)} (h : ∀ r ∈ rows, r.length = n) (k : Nat), (rows.drop k).flatten = rows.flatten.drop (k * n)
  | [], _, k => by simp
  | r :: rs, h, 0 => by simp
  | r :: rs, h, k + 1 => by
    have hr := h r (by simp)
    have ih := flat_drop (rows := rs) (fun q hq => h q (by simp [hq])) k
    simp only [List.drop_succ_cons, List.flatten_cons, ih]
    rw [show (k + 1) * n = r.length + k * n from by rw [hr, Nat.add_mul]; omega, List.drop_length_add_append]
theorem flat_at {α : Type} {n : Nat} {rows : List (List α)} (h : ∀ r ∈ rows, r.length = n) {i j : Nat} (hj : j < n) : rows.flatten[i * n + j]? = (rows[i]?).bind fun r => r[j]? := by
  have e := flat_drop h i
  have e2 : rows.flatten[i * n + j]? = (rows.drop i).flatten[j]? := by rw [e, List.getElem?_drop]
  rw [e2]
  rcases Nat.lt_or_ge i rows.length with hi | hi
  · rw [List.drop_eq_getElem_cons hi, List.flatten_cons, List.getElem?_append_left (by rw [h _ (List.getElem_mem hi)]; exact hj), List.getElem?_eq_getElem hi]; rfl
  · rw [List.drop_eq_nil_of_le hi, List.getElem?_eq_none hi]; rfl
theorem unif_rows {M : Nat → Prop} {w : World} {n : Nat} {vals : List (List Value)} {rows : List (List AV)} (h : Rows M w n vals rows) : ∀ q ∈ rows, q.length = n := fun q hq => by
  obtain ⟨i, hi, rfl⟩ := List.getElem_of_mem hq
  have hi' : i < vals.length := by rw [h.1]; exact hi
  exact (h.2 i _ vals[i] (by simp [hi]) (by simp [hi'])).1
theorem flat_lenA {α : Type} {n : Nat} {rows : List (List α)} (h : ∀ r ∈ rows, r.length = n) : rows.flatten.length = rows.length * n := by
  induction rows with
  | nil => simp
  | cons r rs ih => rw [List.flatten_cons, List.length_append, h r (by simp), ih fun q hq => h q (by simp [hq]), List.length_cons, Nat.add_mul]; omega
section
variable {P : Program} {N : Nat} {M0 : Nat → Prop} {w0 : Base} {ops : Array Oper} {Q : Exit → ASt → Prop} {o : Oper} {l : List Oper} {st : ASt}
/-- Elements, read for a copy: data, or a part of a row of the call's own. -/
def SrcOf (st : ASt) (y : Operand) (n L : Nat) (news : List (List AV)) : Prop :=
  (st.ev y = .d (.sl n news) ∧ L = news.length) ∨ (∃ k g T rows l h, st.ev y = .ows k g n l h ∧ st.ob k = some (g, .arr T n rows) ∧ L = h - l ∧ news = (rows.take h).drop l) ∨ (∃ k g T, st.ev y = .ow k g ∧ st.ob k = some (g, .arr T n news) ∧ L = news.length)
theorem SrcOf.run {a : Act} {w : World} {ρ : Rho} (hsim : SimR N M0 w0 st ρ a w) {y : Operand} {n L c : Nat} {news : List (List AV)} (hs : SrcOf st y n L news) (hy : SRep (Mt M0 ρ st.ob) w ρ (st.ev y) (a.eval y)) (hn : 0 < n) (hc : c ≤ news.length) :
    (∃ a' cp, a.eval y = .slice a' L cp) ∧ (∀ q ∈ news, q.length = n) ∧ ∃ us, us.length = c * n ∧ (Builtin.firstCells n c (a.eval y)).run P w = .ok us.toArray w ∧ Cells (Mt M0 ρ st.ob) w (news.take c).flatten us := by
  -- part of a row of the call's own, from its cells
  have own : ∀ (k g : Nat) (T : TypeId) (rows : List (List AV)) (l h : Nat) (ad : Option Addr) (len cp : Nat) (a' : Option Addr) (cp' : Nat), st.ob k = some (g, .arr T n rows) → ρ k g = some (.slice ad len cp) → l ≤ h → h ≤ cp → (l < h → ∃ b, ad = some ⟨b, 0, none⟩ ∧ a' = some ⟨b, l * n, none⟩) → news = (rows.take h).drop l → a.eval y = .slice a' L cp' →
      (∀ q ∈ news, q.length = n) ∧ ∃ us, us.length = c * n ∧ (Builtin.firstCells n c (a.eval y)).run P w = .ok us.toArray w ∧ Cells (Mt M0 ρ st.ob) w (news.take c).flatten us := by
    intro k g T rows l h ad len cp a' cp' hob hρ hlh hhc hlt hnews hyy
    obtain ⟨u, hu, hO⟩ := hsim.obj k g _ hob
    rw [hρ] at hu; cases hu
    obtain ⟨vals0, hown0, hrw0, _⟩ := id hO
    have hun := unif_rows hrw0
    have hunn : ∀ q ∈ news, q.length = n := fun q hq => hun q (by rw [hnews] at hq; exact List.mem_of_mem_take (List.mem_of_mem_drop hq))
    refine ⟨hunn, ?_⟩
    rcases Nat.eq_zero_or_pos c with rfl | hc0
    · refine ⟨[], by simp, ?_, by simp [Cells]⟩
      rw [hyy]
      cases a' with
      | none => exact run_firstCells_none w n 0 _ _
      | some a' => exact run_firstCells_some w n 0 a' _ _ [] (by simp) (fun j v hj => by simp at hj)
    · have hnl : news.length = min h rows.length - l := by rw [hnews]; simp
      have hlt' : l < h := by omega
      obtain ⟨b, rfl, rfl⟩ := hlt hlt'
      obtain ⟨cap, cur, vals, he, hgb, hnc, hcm, hsz, htk, hrw, hl, hlb⟩ := arr_at hO (b := b) rfl
      have hlr : l + c ≤ rows.length := by omega
      have hmul : l * n + c * n ≤ rows.length * n := by rw [← Nat.add_mul]; exact Nat.mul_le_mul_right _ hlr
      have hcn : rows.length * n ≤ cap * n := Nat.mul_le_mul_right _ hnc
      have hcur : ∀ q, q < c * n → cur.toList[l * n + q]? = vals.flatten[l * n + q]? := fun q hq => by rw [← htk, List.getElem?_take, if_pos (by omega)]
      refine ⟨(cur.toList.drop (l * n)).take (c * n), by simp; omega, ?_, by simp [List.length_take, flat_lenA (fun q hq => hunn q (List.mem_of_mem_take hq))]; have : (news.take c).length = c := by simp; omega
                                                                             rw [Nat.min_eq_left hc]; omega, fun j x z hj hz => ?_⟩
      · rw [hyy]
        exact run_firstCells_some w n c ⟨b, l * n, none⟩ _ _ _ (by simp; omega) (fun j v hj => by
          rw [List.getElem?_take] at hj
          split at hj
          · rw [List.getElem?_drop] at hj
            have hj2 : cur[l * n + j]? = some v := by simpa using hj
            rw [add_addr, cell_of_row w b (l * n + j) cur T (0, 0) hgb, hj2]
          · cases hj)
      · rw [List.getElem?_take] at hz
        split at hz
        · rename_i hjc
          rw [List.getElem?_drop, hcur j hjc] at hz
          have e : (news.take c).flatten[j]? = rows.flatten[l * n + j]? := by
            rw [flat_take hunn, List.getElem?_take, if_pos hjc, hnews, flat_drop (fun q hq => hun q (List.mem_of_mem_take hq)), List.getElem?_drop, flat_take hun, List.getElem?_take, if_pos]
            have : (l + c) * n ≤ h * n := Nat.mul_le_mul_right _ (by omega)
            rw [Nat.add_mul] at this
            omega
          rw [e] at hj
          obtain ⟨z', k1, k2, k3⟩ := rows_flat hrw hj
          rw [hz] at k1; cases k1
          exact ⟨k2, k3⟩
        · cases hz
  rcases hs with ⟨h1, rfl⟩ | ⟨k, g, T, rows, l, h, h1, hob, rfl, hnews⟩ | ⟨k, g, T, h1, hob, rfl⟩
  · rw [h1] at hy
    have hy : Rep (Mt M0 ρ st.ob) w (.sl n news) (a.eval y) := hy
    generalize a.eval y = v at hy
    cases hy with
    | nil n a' c' =>
      obtain rfl : c = 0 := by simpa using hc
      refine ⟨⟨_, _, rfl⟩, fun q hq => (by cases hq), [], by simp, ?_, by simp [Cells]⟩
      cases a' with
      | none => exact run_firstCells_none w n 0 _ _
      | some a' => exact run_firstCells_some w n 0 a' _ _ [] (by simp) (fun j v hj => by simp at hj)
    | sl n rows b o' cap f hl hcap hn' hcc hr =>
      have hun : ∀ q ∈ news, q.length = n := fun q hq => by
        obtain ⟨i, hi, rfl⟩ := List.getElem_of_mem hq
        exact hn' i _ (by simp [hi])
      have hat : ∀ q, q < c * n → q / n < news.length ∧ q % n < n ∧ q / n * n + q % n = q := fun q hq => by
        have h1 : q / n < c := (Nat.div_lt_iff_lt_mul hn).2 hq
        exact ⟨by omega, Nat.mod_lt _ hn, by rw [Nat.mul_comm]; exact Nat.div_add_mod q n⟩
      have hel : ∀ i, i < news.length → ∀ j, j < n → ∃ r x, news[i]? = some r ∧ r[j]? = some x := fun i hi j hj => by
        have h5 : (news[i]'hi).length = n := hn' i _ (by simp [hi])
        exact ⟨news[i], (news[i]'hi)[j]'(by omega), by simp [hi], by simp [h5, hj]⟩
      refine ⟨⟨_, _, rfl⟩, hun, (List.range (c * n)).map fun q => f (q / n) (q % n), by simp, ?_, ?_, fun j x z hj hz => ?_⟩
      · exact run_firstCells_some w n c ⟨b, o', none⟩ _ _ _ (by simp) (fun j v hj => by
          rw [List.getElem?_map] at hj
          obtain ⟨q, h5, rfl⟩ := Option.map_eq_some_iff.1 hj
          obtain ⟨h6, h7⟩ := List.getElem?_eq_some_iff.1 h5
          simp at h6 h7
          subst h7
          obtain ⟨h8, h9, h10⟩ := hat j h6
          obtain ⟨r, x, h11, h12⟩ := hel _ h8 _ h9
          have := (hcc _ r _ x h11 h12).2.1
          rw [add_addr]
          rw [Nat.add_assoc, h10] at this
          exact this)
      · simp [flat_lenA (fun q hq => hun q (List.mem_of_mem_take hq))]
        rw [Nat.min_eq_left hc]
      · rw [List.getElem?_map] at hz
        obtain ⟨q, h5, rfl⟩ := Option.map_eq_some_iff.1 hz
        obtain ⟨h6, h7⟩ := List.getElem?_eq_some_iff.1 h5
        simp at h6 h7
        subst h7
        obtain ⟨h8, h9, h10⟩ := hat j h6
        obtain ⟨r, x', h11, h12⟩ := hel _ h8 _ h9
        rw [flat_take hun, List.getElem?_take, if_pos h6] at hj
        have e := flat_at hun (i := j / n) h9
        rw [h10, hj, h11] at e
        simp only [Option.bind_some, h12, Option.some.injEq] at e
        subst e
        exact ⟨hr _ r _ x h11 h12, (hcc _ r _ x h11 h12).2.2⟩
  · rw [h1] at hy
    obtain ⟨ad, len, cp, a', k1, k2, k3, k4, k5⟩ := hy
    exact ⟨⟨a', cp - l, k2⟩, own k g T rows l h ad len cp a' _ hob k1 k3 k4 k5 hnews k2⟩
  · rw [h1] at hy
    obtain ⟨k1, _⟩ := hy
    obtain ⟨u, hu, hO⟩ := hsim.obj k g _ hob
    rw [k1] at hu; cases hu
    obtain ⟨vals0, hown0, hrw0, ⟨a1, c1, he⟩, _⟩ := id hO
    have hcap : news.length ≤ c1 ∧ (0 < news.length → ∃ b, a1 = some ⟨b, 0, none⟩) := by
      rcases hown0.2 with ⟨e, e0⟩ | ⟨b, cap, cur, e, _, _, hnc, _⟩
      · exact ⟨by omega, fun h => by omega⟩
      · rw [he] at e; cases e; exact ⟨hnc, fun _ => ⟨b, rfl⟩⟩
    refine ⟨⟨a1, c1, he⟩, own k g T news 0 news.length a1 news.length c1 a1 c1 hob (by rw [k1, he]) (Nat.zero_le _) hcap.1 (fun h => ?_) (by simp) he⟩
    obtain ⟨b, rfl⟩ := hcap.2 h
    exact ⟨b, rfl, by simp⟩
theorem SimR.tell {ρ : Rho} {a : Act} {w : World} (h : SimR N M0 w0 st ρ a w) {j : Nat} {s : SV} (hs : SRep (Mt M0 ρ st.ob) w ρ s (a.tmps.getD j undef)) : SimR N M0 w0 (st.set j s) ρ a w where
  size := h.size
  defers := h.defers
  slot i := by
    show SRep (Mt M0 ρ st.ob) w ρ (bif Nat.beq i j then s else st.sl i) _
    cases hb : Nat.beq i j with
    | true => obtain rfl := Nat.eq_of_beq_eq_true hb; exact hs
    | false => exact h.slot i
  obj := h.obj
  apart := h.apart
  gens := h.gens
  base := h.base
  ext := h.ext
  pin := h.pin
/-- How a row of the call's own stands: its slice. -/
theorem ORep.form {B : Base} {M : Nat → Prop} {w : World} {ρ : Rho} {v : Value} {T : TypeId} {n : Nat} {rows : List (List AV)} (h : ORep B M w ρ v (.arr T n rows)) : ∃ a c, v = .slice a rows.length c ∧ rows.length ≤ c ∧ c ≤ maxLen ∧ (0 < c → ∃ b, a = some ⟨b, 0, none⟩) := by
  obtain ⟨vals, hown, _⟩ := h
  rcases hown.2 with ⟨rfl, e⟩ | ⟨b, cap, cur, rfl, _, _, hnc, hcm, _⟩
  · exact ⟨none, 0, by rw [e], by omega, Nat.zero_le _, fun h => by omega⟩
  · exact ⟨_, cap, rfl, hnc, hcm, fun _ => ⟨b, rfl⟩⟩
/-- A datum that leads to no memory. -/
def plainA : AV → Bool
  | .v _ => true
  | .row cs => cs.all fun | .v _ => true | _ => false
  | .tup cs => cs.all fun | .v _ => true | _ => false
  | _ => false
theorem Rep.plain {M M' : Nat → Prop} {w : World} {a : AV} {x : Value} (h : Rep M w a x) (hp : plainA a = true) : Rep M' w a x := by
  cases h with
  | v _ h => exact .v _ h
  | row cs vs hl h1 hr =>
    refine .row cs vs hl h1 fun j a x h2 h3 => ?_
    have h4 := hr j a x h2 h3
    have := List.all_eq_true.1 (show cs.all _ = true from hp) a (List.mem_of_getElem? h2)
    cases h4 with
    | v _ h => exact .v _ h
    | _ => simp at this
  | tup cs vs hl hr =>
    refine .tup cs vs hl fun j a x h2 h3 => ?_
    have h4 := hr j a x h2 h3
    have := List.all_eq_true.1 (show cs.all _ = true from hp) a (List.mem_of_getElem? h2)
    cases h4 with
    | v _ h => exact .v _ h
    | _ => simp at this
  | _ => cases hp
/-- Arguments: data, or rows of the call's own. -/
def ArgsR (st : ASt) : List Operand → List AV → Prop
  | [], [] => True
  | x :: xs, a :: aa => (Sub (st.ev x) (.d a) ∨ ∃ k g T n rows, st.ev x = .ow k g ∧ st.ob k = some (g, .arr T n rows) ∧ a = .sl n rows) ∧ ArgsR st xs aa
  | _, _ => False
def NoRows (M : Nat → Prop) (ρ : Rho) (ob : Nat → Option (Nat × AO)) : Nat → Prop := fun b => M b ∧ ¬ ∃ k g T n rows h, ob k = some (g, .arr T n rows) ∧ ρ k g = some h ∧ blk h = some b
theorem ArgsR.rep {B : Base} {M : Nat → Prop} {w : World} {ρ : Rho} {a : Act} (h3 : ∀ k g ob, st.ob k = some (g, ob) → ∃ h, ρ k g = some h ∧ ORep B M w ρ h ob) : ∀ {xs : List Operand} {aa : List AV}, ArgsR st xs aa → (∀ x ∈ xs, SRep M w ρ (st.ev x) (a.eval x)) → AllRep (NoRows M ρ st.ob) w aa (xs.map a.eval)
  | [], [], _, _ => ⟨rfl, fun j a x h => by simp at h⟩
  | x :: xs, b :: aa, h, hs => by
    have ih := ArgsR.rep h3 h.2 fun y hy => hs y (by simp [hy])
    have h1 := hs x (by simp)
    have hx : Rep (NoRows M ρ st.ob) w b (a.eval x) := by
      rcases h.1 with h5 | ⟨k, g, T, n, rows, h5, h6, rfl⟩
      · exact (show Rep M w b (a.eval x) from h5 M w ρ _ h1).mono (Known.sub fun b hb => hb.1)
      · rw [h5] at h1
        obtain ⟨k1, _⟩ := h1
        obtain ⟨u, hu, hO⟩ := h3 k g _ h6
        rw [k1] at hu; cases hu
        exact hO.frz (Known.sub fun b hb => hb.1) fun b hb hm => hm.2 ⟨k, g, T, n, rows, _, h6, k1, hb⟩
    refine ⟨by simp [ih.1], fun j c y h5 h6 => ?_⟩
    cases j with
    | zero => simp at h5 h6; subst h5 h6; exact hx
    | succ j => exact ih.2 j c y (by simpa using h5) (by simpa using h6)
/-- A call that reads rows of the call's own, and yields what leads to no memory. -/
theorem Pu_callR {f : FuncId} {xs : Array Operand} {ts : Array TypeId} {aa : List AV} {res : AV} (hc : ACall P f aa res) (ho : o.op = .call ⟨.value (.func f), xs, ts⟩) (hp : plainA res = true) (ha : ArgsR st xs.toList aa) : Pu P st o (.d res) := fun B M ρ w a hM h2 h3 hev K hK => by
  have h4 := ha.rep (a := a) h3 fun x hx => h2 x (mem_call ho x (by simpa using hx))
  have h5 := hc.2 (NoRows M ρ st.ob) w _ (fun b hb => hM b hb.1) h4
  have e : (execOp a.eval o).run P w = .ok (.enter f (xs.toList.map a.eval).toArray) w := by
    simp only [execOp, ho, resolve, Act.eval, Deferred.ofValue, invoke, Sem.run_bind, Sem.run_pure, Result.andThen_ok]
    rw [hc.1]
    congr 2
    apply Array.ext'
    simp
  rw [e]
  exact h5.mono fun e w' ⟨v, h6, h7, h8⟩ => ⟨v, h6, hK v w' (Kn.ext h7) (h8.plain hp)⟩
end
end Go.Proofs.Ytlcahhlghjbnkaa.A
end

section
namespace Go.Proofs.Ytlcahhlghjbnkaa.A
open Go Go.RowKit
/-- Whatever reads as the one reads as the other. -/
def ASub (a a' : AV) : Prop := ∀ (M : Nat → Prop) (w : World) (x : Value), Rep M w a x → Rep M w a' x
theorem ASub.rfl {a : AV} : ASub a a := fun _ _ _ h => h
theorem ASub.eq {a b : AV} (h : a = b) : ASub a b := h ▸ ASub.rfl
theorem ASub.nil {n : Nat} : ASub (.v (.slice none 0 0)) (.sl n []) := fun _ _ _ h => by cases h; exact .nil n _ _
theorem ASub.sub {a a' : AV} (h : ASub a a') : Sub (.d a) (.d a') := fun M w _ x hx => h M w x hx
def LSub : List AV → List AV → Prop
  | [], [] => True
  | a :: l, b :: m => ASub a b ∧ LSub l m
  | _, _ => False
theorem LSub.refl : ∀ (l : List AV), LSub l l
  | [] => trivial
  | _ :: l => ⟨ASub.rfl, LSub.refl l⟩
theorem LSub.get : ∀ {l m : List AV}, LSub l m → l.length = m.length ∧ ∀ (j : Nat) (b : AV), m[j]? = some b → ∃ a, l[j]? = some a ∧ ASub a b
  | [], [], _ => ⟨rfl, fun j b h => by simp at h⟩
  | a :: l, b :: m, h => by
    obtain ⟨h1, h2⟩ := h.2.get
    refine ⟨by simp [h1], fun j c hc => ?_⟩
    cases j with
    | zero => simp at hc; subst hc; exact ⟨a, rfl, h.1⟩
    | succ j => exact h2 j c (by simpa using hc)
  | [], _ :: _, h => h.elim
  | _ :: _, [], h => h.elim
def RSub : List (List AV) → List (List AV) → Prop
  | [], [] => True
  | a :: l, b :: m => LSub a b ∧ RSub l m
  | _, _ => False
theorem RSub.get : ∀ {l m : List (List AV)}, RSub l m → l.length = m.length ∧ ∀ (j : Nat) (b : List AV), m[j]? = some b → ∃ a, l[j]? = some a ∧ LSub a b
  | [], [], _ => ⟨rfl, fun j b h => by simp at h⟩
  | a :: l, b :: m, h => by
    obtain ⟨h1, h2⟩ := h.2.get
    refine ⟨by simp [h1], fun j c hc => ?_⟩
    cases j with
    | zero => simp at hc; subst hc; exact ⟨a, rfl, h.1⟩
    | succ j => exact h2 j c (by simpa using hc)
  | [], _ :: _, h => h.elim
  | _ :: _, [], h => h.elim
theorem ASub.sl {n : Nat} {rows rows' : List (List AV)} (h : RSub rows rows') : ASub (.sl n rows) (.sl n rows') := fun M w x hx => by
  obtain ⟨h1, h2⟩ := h.get
  cases hx with
  | nil n a c =>
    cases rows' with
    | nil => exact .nil n a c
    | cons r l => simp at h1
  | sl n rows b o cap f hl hcap hn hc hr =>
    rw [h1]
    refine .sl n rows' b o cap f (by omega) (by omega) (fun i r hi => ?_) (fun i r j a hi hj => ?_) (fun i r j a hi hj => ?_)
    · obtain ⟨q, h3, h4⟩ := h2 i r hi
      rw [← h4.get.1]; exact hn i q h3
    · obtain ⟨q, h3, h4⟩ := h2 i r hi
      obtain ⟨c, h5, _⟩ := h4.get.2 j a hj
      exact hc i q j c h3 h5
    · obtain ⟨q, h3, h4⟩ := h2 i r hi
      obtain ⟨c, h5, h6⟩ := h4.get.2 j a hj
      exact h6 _ _ _ (hr i q j c h3 h5)
theorem ASub.row {cs cs' : List AV} (h : LSub cs cs') : ASub (.row cs) (.row cs') := fun M w x hx => by
  obtain ⟨h1, h2⟩ := h.get
  cases hx with
  | row cs vs hl hone hr =>
    refine .row cs' vs (by omega) hone (fun j a x hj hx => ?_)
    obtain ⟨c, h3, h4⟩ := h2 j a hj
    exact h4 _ _ _ (hr j c x h3 hx)
end Go.Proofs.Ytlcahhlghjbnkaa.A
namespace Go.Proofs.Ytlcahhlghjbnkaa.A
open Go Go.RowKit
def CCells (M : Nat → Prop) (w : World) (ρ : Rho) (cs : List CV) (vs : List Value) : Prop := vs.length = cs.length ∧ ∀ (j : Nat) (c : CV) (x : Value), cs[j]? = some c → vs[j]? = some x → CRep M w ρ c x ∧ x.oneCell' = true
theorem CCells.append {M : Nat → Prop} {w : World} {ρ : Rho} {aa bs : List CV} {vs us : List Value} (h : CCells M w ρ aa vs) (k : CCells M w ρ bs us) : CCells M w ρ (aa ++ bs) (vs ++ us) := ⟨by simp [h.1, k.1], fun j a x h1 h2 => by
  by_cases hj : j < aa.length
  · rw [List.getElem?_append_left hj] at h1
    rw [List.getElem?_append_left (by rw [h.1]; exact hj)] at h2
    exact h.2 j a x h1 h2
  · rw [List.getElem?_append_right (by omega)] at h1
    rw [List.getElem?_append_right (by rw [h.1]; omega), h.1] at h2
    exact k.2 _ a x h1 h2⟩
theorem CCells.take {M : Nat → Prop} {w : World} {ρ : Rho} {aa : List CV} {vs : List Value} (h : CCells M w ρ aa vs) (n : Nat) : CCells M w ρ (aa.take n) (vs.take n) := ⟨by simp [h.1], fun j a x h1 h2 => by
  rw [List.getElem?_take] at h1 h2
  split at h1
  · rename_i hj; rw [if_pos hj] at h2; exact h.2 j a x h1 h2
  · cases h1⟩
theorem CCells.drop {M : Nat → Prop} {w : World} {ρ : Rho} {aa : List CV} {vs : List Value} (h : CCells M w ρ aa vs) (n : Nat) : CCells M w ρ (aa.drop n) (vs.drop n) := ⟨by simp [h.1], fun j a x h1 h2 => by
  rw [List.getElem?_drop] at h1 h2
  exact h.2 _ a x h1 h2⟩
theorem Cells.cc {M : Nat → Prop} {w : World} {ρ : Rho} {cs : List AV} {vs : List Value} (h : Cells M w cs vs) : CCells M w ρ (cs.map .d) vs := ⟨by simp [h.1], fun j c x h1 h2 => by
  rw [List.getElem?_map] at h1
  obtain ⟨a, h3, rfl⟩ := Option.map_eq_some_iff.1 h1
  exact h.2 j a x h3 h2⟩
theorem CCells.reps {M : Nat → Prop} {w : World} {ρ : Rho} {cs : List CV} {vs : List Value} (h : CCells M w ρ cs vs) : (∀ v ∈ vs, v.oneCell' = true) ∧ CReps M w ρ cs vs := ⟨fun v hv => by
  obtain ⟨j, hj, rfl⟩ := List.getElem_of_mem hv
  have hj2 : j < cs.length := by rw [← h.1]; exact hj
  exact (h.2 j cs[j] _ (by simp [hj2]) (by simp [hj])).2, h.1, fun j c x h1 h2 => (h.2 j c x h1 h2).1⟩
theorem CReps.cc {M : Nat → Prop} {w : World} {ρ : Rho} {cs : List CV} {vs : List Value} (h : CReps M w ρ cs vs) (h1 : ∀ v ∈ vs, v.oneCell' = true) : CCells M w ρ cs vs := ⟨h.1, fun j c x h2 h3 => ⟨h.2 j c x h2 h3, h1 x (List.mem_of_getElem? h3)⟩⟩
/-- The cells of what a slot holds. -/
def cellsS : SV → Option (List CV)
  | .d (.tup _) => none
  | .d a => some ((cellsA a).map .d)
  | .bx k g o => some [.bx k g o]
  | .ow k g => some [.ow k g]
  | .ag l => some l
  | .eq v => some [.eq v]
  | _ => none
theorem SRep.cc {M : Nat → Prop} {w : World} {ρ : Rho} {s : SV} {x : Value} {cs : List CV} (h : SRep M w ρ s x) (hc : cellsS s = some cs) : CCells M w ρ cs x.cells.toList := by
  have one : ∀ (c : CV) (x : Value), CRep M w ρ c x → x.oneCell' = true → CCells M w ρ [c] x.cells.toList := fun c x h1 h2 => by
    rw [one_cells h2]
    exact ⟨rfl, fun j a y h3 h4 => by
      match j, h3, h4 with
      | 0, h3, h4 => simp at h3 h4; subst h3 h4; exact ⟨h1, h2⟩
      | j + 1, h3, _ => simp at h3⟩
  cases s with
  | d a =>
    have hd : cellB a = true ∧ (cellsA a).map CV.d = cs := by
      cases a <;> simp [cellsS] at hc <;> first | exact ⟨rfl, hc⟩ | cases hc
    rw [← hd.2]
    exact (Rep.cells h hd.1).cc
  | bx k g o =>
    obtain rfl := Option.some.inj hc
    obtain ⟨_, b, _, _, h3⟩ := id h
    exact one (.bx k g o) x h (by rw [h3]; rfl)
  | ow k g =>
    obtain rfl := Option.some.inj hc
    exact one (.ow k g) x h h.2
  | eq v =>
    obtain rfl := Option.some.inj hc
    exact one (.eq v) x h (by rw [h.1]; exact h.2)
  | ag l =>
    obtain rfl := Option.some.inj hc
    obtain ⟨vs, rfl, h1, h2⟩ := h
    exact h2.cc h1
  | _ => cases hc
def fillC (place : Nat → Option (Nat × Nat)) (cells : List CV) : List (Nat × List CV) → Option (List CV)
  | [] => some cells
  | (i, a) :: rest => match place i with
    | none => none
    | some (off, size) => if a.length ≠ size || off + a.length > cells.length then none else fillC place (cells.take off ++ a ++ cells.drop (off + a.length)) rest
section
variable {P : Program} {N : Nat} {M0 : Nat → Prop} {w0 : Base} {ops : Array Oper} {Q : Exit → ASt → Prop} {o : Oper} {l : List Oper} {st : ASt}
def PartsC (st : ASt) : List (Nat × Operand) → List (Nat × List CV) → Prop
  | [], [] => True
  | (i, x) :: xs, (j, a) :: aa => i = j ∧ cellsS (st.ev x) = some a ∧ PartsC st xs aa
  | _, _ => False
theorem run_fillC {M : Nat → Prop} {w : World} {ρ : Rho} {a : Act} (place : Nat → Option (Nat × Nat)) : ∀ (ps : List (Nat × Operand)) (aa : List (Nat × List CV)) (cs r : List CV) (vs : Array Value), PartsC st ps aa → (∀ p ∈ ps, SRep M w ρ (st.ev p.2) (a.eval p.2)) → CCells M w ρ cs vs.toList → fillC place cs aa = some r →
    ∃ us : Array Value, Instr.fill place vs (ps.map fun (i, x) => (i, a.eval x)) = some us ∧ CCells M w ρ r us.toList
  | [], [], cs, r, vs, _, _, hc, hr => by simp only [fillC, Option.some.injEq] at hr; subst hr; exact ⟨vs, rfl, hc⟩
  | (i, x) :: ps, (j, b) :: aa, cs, r, vs, hp, hs, hc, hr => by
    obtain ⟨rfl, hx, hp⟩ := hp
    have h1 := hs (i, x) (by simp)
    have h2 := SRep.cc h1 hx
    simp only [fillC] at hr
    simp only [List.map_cons, Instr.fill]
    cases hpl : place i with
    | none => rw [hpl] at hr; cases hr
    | some p =>
      obtain ⟨off, size⟩ := p
      rw [hpl] at hr
      simp only at hr ⊢
      split at hr
      · cases hr
      · rename_i hn
        simp only [Bool.or_eq_true, decide_eq_true_eq, not_or, Nat.not_lt] at hn
        obtain ⟨h3, h4⟩ := hn
        have hl1 : (a.eval x).cells.size = b.length := by rw [← h2.1]; simp
        have hl2 : vs.size = cs.length := by rw [← hc.1]; simp
        have h3' : b.length = size := by simpa using h3
        rw [if_neg (by simp only [Bool.or_eq_true, decide_eq_true_eq, not_or, Nat.not_lt]; exact ⟨by simp; omega, by omega⟩)]
        refine run_fillC place ps aa _ r _ hp (fun p hp' => hs p (by simp [hp'])) ?_ hr
        have h5 := fold_splice off (a.eval x).cells.toList 0 vs (by simp; omega)
        have e : (Array.foldl (fun cs (p : Value × Nat) => cs.setIfInBounds (off + p.2) p.1) vs (a.eval x).cells.zipIdx).toList = vs.toList.take off ++ (a.eval x).cells.toList ++ vs.toList.drop (off + b.length) := by
          rw [← Array.foldl_toList, Array.toList_zipIdx, h5]
          simp [hl1]
        have e' : (Array.foldl (fun cs (x : Value × Nat) => match x with | (c, j) => cs.setIfInBounds (off + j) c) vs (a.eval x).cells.zipIdx).toList = _ := e
        rw [e']
        exact ((hc.take off).append h2).append (hc.drop _)
  | [], _ :: _, _, _, _, h, _, _, _ => h.elim
  | _ :: _, [], _, _, _, h, _, _, _ => h.elim
/-- A struct of which some cells hold objects of the call's own. -/
theorem Pu_buildAg {t : TypeId} {ps : Array (Nat × Operand)} {aa : List (Nat × List CV)} {fs : Array Field} {places : Array (Nat × Nat)} {zs : List Value} {r : List CV} (ho : o.op = .build t ps) (ht : P.underlying t = some (.struct fs)) (hz : ∀ w, (zeroValue t).run P w = .ok (.agg zs.toArray) w)
    (hp : ∀ w, (fs.mapM (fun f => do pure (f.offset, ← sizeOf f.type)) : Sem (Array (Nat × Nat))).run P w = .ok places w) (hv : zs.all (fun z => decide (vok z)) = true) (ha : PartsC st ps.toList aa) (hr : fillC (places[·]?) (zs.map fun z => .d (.v z)) aa = some r) : Pu P st o (.ag r) := Pu_q fun B M ρ w a h2 _ => by
  have hz0 : CCells M w ρ (zs.map fun z => .d (.v z)) zs := by
    have := (cells_v (M := M) (w := w) hv).cc (ρ := ρ)
    rwa [List.map_map] at this
  obtain ⟨us, h3, h4⟩ := run_fillC (M := M) (w := w) (ρ := ρ) (a := a) (places[·]?) ps.toList aa _ r zs.toArray ha (fun p hp => h2 p.2 (by
    simp only [opsOf, ho, Op.operands]
    exact List.mem_map.2 ⟨p, hp, rfl⟩)) hz0 hr
  refine ⟨.agg us, ?_, us.toList, by simp, h4.reps⟩
  have e : (ps.map fun (p : Nat × Operand) => (p.1, a.eval p.2)).toList = ps.toList.map fun (i, x) => (i, a.eval x) := by simp
  simp only [execOp, ho, Instr.build, Sem.run_bind, hz, Result.andThen_ok, run_underlying ht, hp, Value.cells]
  rw [e]
  simp only [h3, Sem.run_pure, Sem.run_bind, Result.andThen_ok]
theorem cv_one {M : Nat → Prop} {w : World} {ρ : Rho} {r : List CV} {vs : List Value} {j : Nat} {s : SV} {x : Value} (h : CReps M w ρ r vs) (h1 : ∀ v ∈ vs, v.oneCell' = true) (hs : (r.map CV.sv)[j]? = some s) (hx : vs[j]? = some x) : SRep M w ρ s x ∧ x.oneCell' = true := by
  rw [List.getElem?_map] at hs
  obtain ⟨c, h2, rfl⟩ := Option.map_eq_some_iff.1 hs
  exact ⟨CV.rep.2 (h.2 j c x h2 hx), h1 x (List.mem_of_getElem? hx)⟩
/-- A variable, made with such a value. -/
theorem Al_boxAg {d : Nat} {T : TypeId} {x : Operand} {r : List CV} (ho : o.op = .box T x) (hg : o.guard = none) (hd : o.dst = some d) (hN : d < N) (hc : conB o = true) (hx : st.ev x = .ag r)
    (h : ∀ g, Al P N M0 w0 ops Q l ((st.put d g (.box T (r.map CV.sv))).set d (.bx d g 0))) : Al P N M0 w0 ops Q (o :: l) st := by
  refine ⟨?_⟩
  rintro a w ⟨ρ, hsim⟩
  have hm := hsim.ev hc x (by simp [opsOf, ho, Op.operands])
  rw [hx] at hm
  obtain ⟨vs, hy, h1, hr⟩ := hm
  have hE : Ev.Ext w (w.alloc (.cells vs.toArray T)) := (Below.refl _ _).alloc (Nat.le_refl _) _
  obtain ⟨g', ρ', k1, k2⟩ := hsim.upd (w' := w.alloc (.cells vs.toArray T)) d ⟨rfl, rfl, rfl⟩ hE.size (fun b hb _ => hE.block b hb) (x' := .pointer (some ⟨w.heap.size, 0, none⟩)) (o' := .box T (r.map CV.sv)) (fun b hb => by simp [blk] at hb; exact .inl (by omega))
    (fun M' ρ' hK hle => ⟨w.heap.size, vs.toArray, rfl, .inl hsim.ext.size, heap_alloc_new _ _, by simp [hr.1], fun j s x h2 h3 => by
      have h3' : vs[j]? = some x := by simpa using h3
      exact cv_one ((hr.mono hK).rho hle) h1 h2 h3'⟩)
  refine wpList_plain hg fun K hK => wp_upon ?_
  have e : (execOp a.eval o).run P w = .ok (.value (.pointer (some ⟨w.heap.size, 0, none⟩))) (w.alloc (.cells vs.toArray T)) := by
    simp [execOp, ho, hy, Instr.box, newVar, newRow, newObj, Value.cells, Sem.run, Sem.run_bind]
  rw [e]
  refine hK _ _ ((h g').out _ _ ⟨ρ', ?_⟩)
  rw [hd]
  exact k1.set hN ⟨_, _, k2, rfl, rfl⟩
theorem Pu_indexArrb {t e : TypeId} {x i : Operand} {n j m k g off : Nat} {z : Int} (ho : o.op = .indexAddr t x i) (ht : P.underlying t = some (.array m e)) (hz : ∀ w, (sizeOf e).run P w = .ok n w) (hx : st.ev x = .bx k g off) (hi : st.ev i = .d (.v (.int .i64 z))) (hk : z = j) (hlt : j < m) : Pu P st o (.bx k g (off + j * n)) := Pu_q fun B M ρ w a h2 _ => by
  have mm : x ∈ opsOf o ∧ i ∈ opsOf o := by simp [opsOf, ho, Op.operands]
  obtain ⟨e2, _⟩ := ev_v h2 mm.2 hi
  have hm := h2 x mm.1
  rw [hx] at hm
  obtain ⟨u, b, h4, h5, h6⟩ := hm
  subst hk
  refine ⟨.pointer (some ⟨b, off + j * n, none⟩), ?_, u, b, h4, h5, rfl⟩
  simp only [execOp, ho, h6, e2, Instr.indexAt, Sem.run_bind, asIntOf, Sem.run_pure, Result.andThen_ok, run_underlying ht, Instr.sureAddr]
  rw [if_pos ⟨by omega, by omega⟩]
  simp only [Sem.run_bind, hz, Result.andThen_ok, Int.toNat_natCast, add_addr, Sem.run_pure]
end
end Go.Proofs.Ytlcahhlghjbnkaa.A
end

section
namespace Go.Proofs.Ytlcahhlghjbnkaa
open Go.RowKit A R
open A.RowT
instance : Inhabited Dep := ⟨⟨⟨#[]⟩, 0, 0⟩⟩
end Go.Proofs.Ytlcahhlghjbnkaa
end

section
namespace Go.Proofs.Ytlcahhlghjbnkaa
open Go.RowKit A R
open A.RowT
namespace D
/-- A row of deps that rises. -/
def Srt (p : List Dep) : Prop := p.Pairwise fun x y => Op.bytesLess x.key.toList y.key.toList = true
/-- And all of which may be. -/
structure Good (p : List Dep) : Prop where
  srt : Srt p
  ok : ∀ x ∈ p, okB x = true
/-- Where a key is, or would be. -/
def pos : List Dep → ByteArray → Nat
  | [], _ => 0
  | x :: r, k => if Op.bytesLess x.key.toList k.toList then pos r k + 1 else 0
def hasK (p : List Dep) (k : ByteArray) : Bool := p.any fun x => x.key.toList == k.toList
/-- A key's stamp. -/
def get (p : List Dep) (k : ByteArray) : Int × Int := match p.find? fun x => x.key.toList == k.toList with
  | some x => (x.n, x.s)
  | none => (0, 0)
theorem addF_true : ∀ (r : List Dep) (d : Dep), (∀ x ∈ r, eqB x d = false) → addF r d true = r
  | [], d, _ => by simp [addF]
  | x :: r, d, h => by
    rw [addF, if_neg (by simp [h x (by simp)]), if_pos rfl, addF_true r d fun y hy => h y (by simp [hy])]
theorem eq_toList {x d : Dep} : eqB x d = true ↔ x.key.toList = d.key.toList := by unfold eqB; simp
theorem addF_srt : ∀ (p : List Dep) (d : Dep), Srt p → addF p d false = (if hasK p d.key then p.take (pos p d.key) ++ (if lessB (p.getD (pos p d.key) default).n (p.getD (pos p d.key) default).s d.n d.s then d else p.getD (pos p d.key) default) :: p.drop (pos p d.key + 1) else p.take (pos p d.key) ++ d :: p.drop (pos p d.key))
  | [], d, _ => by simp [addF, hasK, pos]
  | x :: r, d, hs => by
    have hc := List.pairwise_cons.1 hs
    have ih := addF_srt r d hc.2
    rw [addF]
    cases he : eqB x d with
    | true =>
      have he' := eq_toList.1 he
      have hp : pos (x :: r) d.key = 0 := by unfold pos; rw [he', K.bl_irrefl]; rfl
      have hh : hasK (x :: r) d.key = true := by simp [hasK, he']
      have hr : addF r d true = r := addF_true r d fun y hy => by
        cases h : eqB y d with
        | false => rfl
        | true =>
          have := hc.1 y hy
          rw [eq_toList.1 h, he', K.bl_irrefl] at this; cases this
      rw [if_pos rfl, hr, if_pos hh, hp]
      simp
    | false =>
      have hne : ¬ x.key.toList = d.key.toList := fun e => by rw [eq_toList.2 e] at he; cases he
      cases hl : ltB x d with
      | true =>
        have hl' : Op.bytesLess x.key.toList d.key.toList = true := hl
        have hp : pos (x :: r) d.key = pos r d.key + 1 := by rw [pos, if_pos hl']
        have hh : hasK (x :: r) d.key = hasK r d.key := by unfold hasK; rw [List.any_cons]; simp [hne]
        rw [if_neg (by simp), if_neg (by simp), if_pos rfl, ih, hp, hh]
        cases hasK r d.key <;> simp
      | false =>
        have hl' : Op.bytesLess x.key.toList d.key.toList = false := hl
        have hp : pos (x :: r) d.key = 0 := by rw [pos, if_neg (by simp [hl'])]
        have hlt : Op.bytesLess d.key.toList x.key.toList = true := by
          cases h : Op.bytesLess d.key.toList x.key.toList with
          | true => rfl
          | false => exact absurd (K.bl_tri _ _ hl' h) hne
        have hno : ∀ y ∈ r, eqB y d = false := fun y hy => by
          cases h : eqB y d with
          | false => rfl
          | true =>
            have := K.bl_trans _ _ _ hlt (hc.1 y hy)
            rw [eq_toList.1 h, K.bl_irrefl] at this; cases this
        have hh : hasK (x :: r) d.key = false := by
          unfold hasK
          rw [List.any_eq_false]
          intro y hy
          rcases List.mem_cons.1 hy with rfl | hy
          · simpa using hne
          · have := hno y hy; unfold eqB at this; simp [this]
        rw [if_neg (by simp), if_neg (by simp), if_neg (by simp), addF_true r d hno, hh, hp]
        simp
theorem add_no {p : List Dep} {d : Dep} (h : okB d = false) : add p d = p := by unfold add; rw [h]; rfl
theorem add_new {p : List Dep} {d : Dep} (hs : Srt p) (h : okB d = true) (hk : hasK p d.key = false) : add p d = p.take (pos p d.key) ++ d :: p.drop (pos p d.key) := by
  unfold add
  rw [if_pos h, addF_srt p d hs, hk]; rfl
theorem add_good {p : List Dep} (hp : Good p) (d : Dep) : Good (add p d) := by
  cases hd : okB d with
  | false => rw [add_no hd]; exact hp
  | true =>
    refine ⟨?_, fun x hx => ?_⟩
    · have key : ∀ (p : List Dep), Srt p → (∀ x : Dep, (∀ y ∈ p, Op.bytesLess x.key.toList y.key.toList = true) → Op.bytesLess x.key.toList d.key.toList = true → ∀ y ∈ addF p d false, Op.bytesLess x.key.toList y.key.toList = true) ∧ Srt (addF p d false) := by
        intro p
        induction p with
        | nil => intro _; exact ⟨fun x _ h y hy => by simp [addF] at hy; subst hy; exact h, by simp [addF, Srt]⟩
        | cons z r ih =>
          intro hs
          have hc := List.pairwise_cons.1 hs
          have hmem : ∀ (q : List Dep) (put : Bool) (y : Dep), y ∈ addF q d put → y ∈ q ∨ y = d := fun q put y => addF_mem q d put y
          refine ⟨fun x h1 h2 y hy => ?_, ?_⟩
          · rcases hmem _ _ _ hy with h | rfl
            · exact h1 y h
            · exact h2
          · rw [addF]
            split
            · rename_i he
              have he' := eq_toList.1 he
              have hr : addF r d true = r := addF_true r d fun y hy => by
                cases h : eqB y d with
                | false => rfl
                | true =>
                  have := hc.1 y hy
                  rw [eq_toList.1 h, he', K.bl_irrefl] at this; cases this
              rw [hr]
              refine List.pairwise_cons.2 ⟨fun y hy => ?_, hc.2⟩
              have h3 := hc.1 y hy
              split
              · rw [← he']; exact h3
              · exact h3
            · rename_i he
              have hne : ¬ z.key.toList = d.key.toList := fun e => he (eq_toList.2 e)
              rw [if_neg (by simp)]
              split
              · rename_i hl
                exact List.pairwise_cons.2 ⟨(ih hc.2).1 z hc.1 hl, (ih hc.2).2⟩
              · rename_i hl
                have hl' : Op.bytesLess z.key.toList d.key.toList = false := by unfold ltB at hl; simpa using hl
                have hlt : Op.bytesLess d.key.toList z.key.toList = true := by
                  cases h : Op.bytesLess d.key.toList z.key.toList with
                  | true => rfl
                  | false => exact absurd (K.bl_tri _ _ hl' h) hne
                have hno : ∀ y ∈ r, eqB y d = false := fun y hy => by
                  cases h : eqB y d with
                  | false => rfl
                  | true =>
                    have := K.bl_trans _ _ _ hlt (hc.1 y hy)
                    rw [eq_toList.1 h, K.bl_irrefl] at this; cases this
                rw [addF_true r d hno]
                refine List.pairwise_cons.2 ⟨fun y hy => ?_, hs⟩
                rcases List.mem_cons.1 hy with rfl | hy
                · exact hlt
                · exact K.bl_trans _ _ _ hlt (hc.1 y hy)
      have := (key p hp.srt).2
      unfold add
      rw [if_pos hd]
      exact this
    · rcases add_mem p d x hx with h | rfl
      · exact hp.ok x h
      · exact hd
end D
set_option maxRecDepth 100000 in
theorem stcheck_a (n s : Int) : ACall Try.prog 29 [.row [iv n, iv s]] (bv (V.stampB n s)) := by
  refine ACall_enter (fun _ _ => by kernel_rfl) Try.func29 rfl Try.ntmps29 Try.results29 (Nat.le_of_ble_eq_true rfl) (fun hok M0 w0 hnl => ?_)
  refine Aw_seq (Aw_region ?_)
  refine Al_p (Pu_boxN rfl rfl) ?_
  refine Al_p Pu_mvr ?_
  refine Al_nil (Aw_seq (Aw_region ?_))
  refine Al_p (Pu_field 0 rfl Try.underlying34 rfl rfl Try.sizeOf3 rfl) ?_
  refine Al_p (Pu_load1 rfl Try.isAgg3 rfl rfl) ?_
  refine Al_p (Pu_cmp rfl rfl rfl rfl) ?_
  refine Al_p Pu_mvl ?_
  refine Al_st (St_gd [] rfl rfl rfl rfl trivial (fun hg7 => Pu_field 0 rfl Try.underlying34 rfl rfl Try.sizeOf3 rfl)) rfl (by decide) (by kernel_rfl) (by intro j b oj dj h1 h2 h3; cases h1; cases h2; cases h3; decide) ?_
  refine Al_st (St_gd [7] rfl rfl rfl rfl ⟨⟨_, rfl⟩, trivial⟩ (fun hg8 => Pu_load1 rfl Try.isAgg3 rfl rfl)) rfl (by decide) (by kernel_rfl) (by intro j b oj dj h1 h2 h3; cases h1; cases h2; cases h3; decide) ?_
  refine Al_st (St_gd [8] rfl rfl rfl rfl ⟨⟨_, rfl⟩, trivial⟩ (fun hg9 => Pu_cmp rfl rfl rfl rfl)) rfl (by decide) (by kernel_rfl) (by intro j b oj dj h1 h2 h3; cases h1; cases h2; cases h3; decide) ?_
  refine Al_p (Pu_and rfl rfl rfl rfl) ?_
  refine Al_p Pu_mvl ?_
  refine Al_st (St_gd [] rfl rfl rfl rfl trivial (fun hg12 => Pu_field 1 rfl Try.underlying34 rfl rfl Try.sizeOf3 rfl)) rfl (by decide) (by kernel_rfl) (by intro j b oj dj h1 h2 h3; cases h1; cases h2; cases h3; decide) ?_
  refine Al_st (St_gd [12] rfl rfl rfl rfl ⟨⟨_, rfl⟩, trivial⟩ (fun hg13 => Pu_load1 rfl Try.isAgg3 rfl rfl)) rfl (by decide) (by kernel_rfl) (by intro j b oj dj h1 h2 h3; cases h1; cases h2; cases h3; decide) ?_
  refine Al_st (St_gd [13] rfl rfl rfl rfl ⟨⟨_, rfl⟩, trivial⟩ (fun hg14 => Pu_cmp rfl rfl rfl rfl)) rfl (by decide) (by kernel_rfl) (by intro j b oj dj h1 h2 h3; cases h1; cases h2; cases h3; decide) ?_
  refine Al_p (Pu_and rfl rfl rfl rfl) ?_
  refine Al_p Pu_mvl ?_
  refine Al_st (St_gd [] rfl rfl rfl rfl trivial (fun hg17 => Pu_field 1 rfl Try.underlying34 rfl rfl Try.sizeOf3 rfl)) rfl (by decide) (by kernel_rfl) (by intro j b oj dj h1 h2 h3; cases h1; cases h2; cases h3; decide) ?_
  refine Al_st (St_gd [17] rfl rfl rfl rfl ⟨⟨_, rfl⟩, trivial⟩ (fun hg18 => Pu_load1 rfl Try.isAgg3 rfl rfl)) rfl (by decide) (by kernel_rfl) (by intro j b oj dj h1 h2 h3; cases h1; cases h2; cases h3; decide) ?_
  refine Al_st (St_gd [18] rfl rfl rfl rfl ⟨⟨_, rfl⟩, trivial⟩ (fun hg19 => Pu_cmp rfl rfl rfl rfl)) rfl (by decide) (by kernel_rfl) (by intro j b oj dj h1 h2 h3; cases h1; cases h2; cases h3; decide) ?_
  refine Al_p (Pu_and rfl rfl rfl rfl) ?_
  refine Al_p Pu_mvr ?_
  refine Al_nil ?_
  refine Aw_ret ?_
  exact Sub.bool (by unfold V.stampB; simp [Bool.and_assoc]) -- ret 0
namespace D
end D
end Go.Proofs.Ytlcahhlghjbnkaa
end

section
namespace Go.Proofs.Ytlcahhlghjbnkaa.A
open Go Go.RowKit
section
variable {P : Program} {N : Nat} {M0 : Nat → Prop} {w0 : Base} {ops : Array Oper} {Q : Exit → ASt → Prop} {o : Oper} {l : List Oper} {st : ASt}
end
end Go.Proofs.Ytlcahhlghjbnkaa.A
namespace Go.Proofs.Ytlcahhlghjbnkaa.A
open Go Go.RowKit
/-- A map of the call's own: its block, how many entries it has at most, and what stands there. -/
def mapO {κ α : Type} (kv : κ → Value) (ok : κ → Prop) (enc : α → AV) (b n : Nat) (m : κ → Option α) : OP where
  F := fun c => c = b
  I := fun M w _ h => h = .map (some b) ∧ R.Mp kv ok (fun w v x => Rep M w (enc x) v) w b n m
  mono := fun {M M' w w' ρ h} k hb hI => ⟨hI.1, hI.2.mono (hb b rfl) fun v x hv => hv.mono k⟩
  rho := fun _ h => h
  lt := fun {M w ρ h} hI c hc => by subst hc; exact hI.2.lt
section
variable {P : Program} {N : Nat} {M0 : Nat → Prop} {w0 : Base} {ops : Array Oper} {Q : Exit → ASt → Prop} {o : Oper} {l : List Oper} {st : ASt}
theorem Al_makeMap {κ α : Type} (kv : κ → Value) (ok : κ → Prop) (enc : α → AV) {d : Nat} {t : TypeId} (ho : o.op = .makeMap t none) (hg : o.guard = none) (hd : o.dst = some d) (hN : d < N)
    (h : ∀ b g, Al P N M0 w0 ops Q l ((st.put d g (.op (mapO kv ok enc b 0 (fun _ => none)))).set d (.ow d g))) : Al P N M0 w0 ops Q (o :: l) st := by
  refine ⟨?_⟩
  rintro a w ⟨ρ, hsim⟩
  obtain ⟨g', ρ', r1, r2, r3⟩ := hsim.upd2 (w' := w.alloc (.map #[] 0)) d ⟨rfl, rfl, rfl⟩ (by simp) (fun b hb _ => heap_alloc_old w _ hb) (x' := .map (some w.heap.size)) (o' := .op (mapO kv ok enc w.heap.size 0 (fun _ => none))) (fun b hb => .inl (by have : b = w.heap.size := hb; omega))
    (fun M' ρ' hK _ => ⟨fun b hb => .inl (by have : b = w.heap.size := hb; have := hsim.ext.size; omega), rfl, R.Mp.made kv ok _ w⟩)
  refine wpList_plain hg fun K hK => wp_upon ?_
  have e : (execOp a.eval o).run P w = .ok (.value (.map (some w.heap.size))) (w.alloc (.map #[] 0)) := by
    simp only [execOp, ho, Option.map_none, Sem.run_bind, run_makeMap, Result.andThen_ok, Sem.run_pure]
  rw [e]
  refine hK _ _ ((h w.heap.size g').out _ _ ⟨ρ', ?_⟩)
  rw [hd]
  exact r1.set hN ⟨r2, rfl⟩
/-- What reads aas a datum is just one value. -/
def Only (a : AV) (x : Value) : Prop := ∀ (M : Nat → Prop) (w : World) (y : Value), Rep M w a y → y = x
theorem Only.v (x : Value) : Only (.v x) x := fun M w y h => by cases h; rfl
theorem Only.row (us : List Value) : Only (.row (us.map .v)) (.agg us.toArray) := fun M w y h => by
  cases h with
  | row cs vs hl h1 hr =>
    congr 2
    apply List.ext_getElem?
    intro j
    rw [List.length_map] at hl
    rcases Nat.lt_or_ge j us.length with hj | hj
    · have h2 := hr j (.v us[j]) (vs[j]'(by omega)) (by simp [hj]) (by simp [hl, hj])
      have : vs[j]'(by omega) = us[j] := by generalize vs[j]'(by omega) = u at h2; cases h2; rfl
      rw [List.getElem?_eq_getElem hj, List.getElem?_eq_getElem (by omega), this]
    · rw [List.getElem?_eq_none hj, List.getElem?_eq_none (by omega)]
/-- What a lookup tells. -/
def lookA {α : Type} (enc : α → AV) (z : AV) : Option α → AV
  | some x => enc x
  | none => z
theorem Pu_lookup {κ α : Type} {kv : κ → Value} {ok : κ → Prop} {enc : α → AV} {b n : Nat} {m : κ → Option α} {t kt e : TypeId} {x y : Operand} {k g : Nat} {ky z : AV} {zv : Value} {c : κ} (T : R.KeyT P kt κ kv ok) (ho : o.op = .lookup t x y false) (ht : P.underlying t = some (.map kt e)) (hz : ∀ w, (zeroValue e).run P w = .ok zv w) (hzr : ∀ M w, Rep M w z zv) (hx : st.ev x = .ow k g) (hob : st.ob k = some (g, .op (mapO kv ok enc b n m))) (hy : st.ev y = .d ky) (hky : Only ky (kv c)) (hok : ok c) : Pu P st o (.d (lookA enc z (m c))) := fun B M ρ w a hM h2 h3 hev K hK => by
  have h1 := h2 x (by simp [opsOf, ho, Op.operands])
  have h4 := h2 y (by simp [opsOf, ho, Op.operands])
  rw [hx] at h1
  rw [hy] at h4
  obtain ⟨k1, _⟩ := h1
  obtain ⟨u, hu, _, he, hmp⟩ := h3 k g _ hob
  rw [k1] at hu; cases hu
  have hyv := hky _ _ _ h4
  obtain ⟨v, hr, hv1, hv2⟩ := hmp.look T ht hz c hok false
  have e : (execOp a.eval o).run P w = .ok (.value v) w := by
    simp only [execOp, ho, he, hyv, hr, Sem.run_bind, Result.andThen_ok, Sem.run_pure, Bool.false_eq_true, if_false]
  rw [e]
  refine hK _ _ (Kn.refl _) ?_
  cases hm : m c with
  | none => rw [hv2 hm]; exact hzr M w
  | some x => exact hv1 x hm
theorem Al_mapUpdate {κ α : Type} [DecidableEq κ] {kv : κ → Value} {ok : κ → Prop} {enc : α → AV} {b n : Nat} {m : κ → Option α} {t kt e : TypeId} {x y z : Operand} {k g : Nat} {ky : AV} {c : κ} {v : α} (T : R.KeyT P kt κ kv ok) (ho : o.op = .mapUpdate t x y z) (hg : o.guard = none) (hd : o.dst = none) (hc : conB o = true) (ht : P.underlying t = some (.map kt e)) (hn : n < maxLen) (hx : st.ev x = .ow k g) (hob : st.ob k = some (g, .op (mapO kv ok enc b n m))) (hy : st.ev y = .d ky) (hky : Only ky (kv c)) (hok : ok c) (hz : Sub (st.ev z) (.d (enc v)))
    (h : Al P N M0 w0 ops Q l (st.put k g (.op (mapO kv ok enc b (n + 1) (fun c' => if c' = c then some v else m c'))))) : Al P N M0 w0 ops Q (o :: l) st := by
  refine ⟨?_⟩
  rintro a w ⟨ρ, hsim⟩
  have hev := hsim.ev hc
  have h1 := hev x (by simp [opsOf, ho, Op.operands])
  have h4 := hev y (by simp [opsOf, ho, Op.operands])
  have h5 := hz _ _ _ _ (hev z (by simp [opsOf, ho, Op.operands]))
  rw [hx] at h1
  rw [hy] at h4
  obtain ⟨k1, _⟩ := h1
  obtain ⟨u, hu, hF, he, hmp⟩ := hsim.obj k g _ hob
  rw [k1] at hu; cases hu
  have hyv := hky _ _ _ h4
  have hb : Mt M0 ρ st.ob b := .inr ⟨k, g, _, _, hob, k1, rfl⟩
  have hkn : ∀ w', w.grownBy w' (some b) → w'.heap.size = w.heap.size → Known (Mt M0 ρ st.ob) (Mt M0 ρ st.ob) w w' := fun w' hgr _ c' hc' hm => ⟨hm, hgr.block c' hc' (fun e => hm (by simp only [Option.some.injEq] at e; exact e ▸ hb))⟩
  obtain ⟨w', hr, hmp', hgr, hsz⟩ := hmp.store T ht hn c hok (a.eval z) v (fun w' hgr hs v x hv => hv.mono (hkn w' hgr hs)) h5
  have hs2 := hsim.mod (w' := w') hob k1 ⟨hgr.os, hgr.tape, hgr.output⟩ hgr.size (fun c' hc' hne => hgr.block c' hc' (fun e => hne (by simp only [Option.some.injEq] at e; exact e))) (o' := .op (mapO kv ok enc b (n + 1) (fun c' => if c' = c then some v else m c'))) (fun M' hK hle => ⟨hF, he, hmp'.mono rfl fun v x hv => hv.mono (Known.sub hle)⟩) (fun c' hc' => hc')
  refine wpList_plain hg fun K hK => wp_upon ?_
  have e : (execOp a.eval o).run P w = .ok .skip w' := by
    simp only [execOp, ho, he, hyv, hr, Sem.run_bind, Result.andThen_ok, Sem.run_pure]
  rw [e]
  refine hK _ _ (h.out _ _ ⟨ρ, ?_⟩)
  rw [hd]
  exact hs2
theorem SubL.refl : ∀ (cs : List SV), SubL cs cs
  | [] => trivial
  | _ :: r => ⟨Sub.rfl, SubL.refl r⟩
theorem SubL.of {cs cs' : List SV} (hl : cs.length = cs'.length) (h : ∀ (j : Nat) (s s' : SV), cs[j]? = some s → cs'[j]? = some s' → Sub s s') : SubL cs cs' := by
  induction cs generalizing cs' with
  | nil => cases cs' with
    | nil => trivial
    | cons => simp at hl
  | cons x r ih => cases cs' with
    | nil => simp at hl
    | cons y r' => exact ⟨h 0 x y rfl rfl, ih (by simpa using hl) fun j s s' h1 h2 => h (j + 1) s s' (by simpa using h1) (by simpa using h2)⟩
end
end Go.Proofs.Ytlcahhlghjbnkaa.A
end
