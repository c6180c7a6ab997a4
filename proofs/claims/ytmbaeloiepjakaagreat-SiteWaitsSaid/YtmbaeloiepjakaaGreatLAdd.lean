/- The reference's Add, plain; Less. -/
/- The reference's Add, by abstract states. -/
import Derived.Test.YtmbaeloiepjakaaGreatRMap
import Derived.Test.YtmbaeloiepjakaaGreatVNum
import Derived.Test.YtmbaeloiepjakaaGreatKWalks
import Derived.Test.YtmbaeloiepjakaaGreatGDat
set_option linter.unusedSimpArgs false
set_option linter.unusedVariables false
namespace Go.Proofs.YtmbaeloiepjakaaGreat
open Go.RowKit R
namespace D
def lessB (a b c d : Int) : Bool := if a = c then decide (b < d) else decide (a < c)
def okB (d : Dep) : Bool := K.checkB d.key && V.stampB d.n d.s
def eqB (x d : Dep) : Bool := x.key.toList == d.key.toList
def ltB (x d : Dep) : Bool := Op.bytesLess x.key.toList d.key.toList
def addF : List Dep → Dep → Bool → List Dep
  | [], d, put => if put then [] else [d]
  | x :: r, d, put =>
    if eqB x d then (if lessB x.n x.s d.n d.s then d else x) :: addF r d true
    else if put then x :: addF r d true
    else if ltB x d then x :: addF r d false
    else d :: x :: addF r d true
def add (p : List Dep) (d : Dep) : List Dep := if okB d then addF p d false else p
theorem addF_len : ∀ (p : List Dep) (d : Dep) (put : Bool), (addF p d put).length ≤ p.length + 1
  | [], d, put => by unfold addF; split <;> simp
  | x :: r, d, put => by
    have h1 := addF_len r d true
    have h2 := addF_len r d false
    have h3 : (addF r d true).length ≤ r.length := addF_len_true r d
    unfold addF
    split
    · simp; omega
    · split
      · simp; omega
      · split <;> simp <;> omega
where addF_len_true : ∀ (p : List Dep) (d : Dep), (addF p d true).length ≤ p.length
  | [], d => by simp [addF]
  | x :: r, d => by
    have h1 := addF_len_true r d
    unfold addF
    split <;> simp <;> omega
theorem add_len (p : List Dep) (d : Dep) : (add p d).length ≤ p.length + 1 := by
  unfold add; split
  · exact addF_len p d false
  · omega
theorem addF_mem : ∀ (p : List Dep) (d : Dep) (put : Bool) (x : Dep), x ∈ addF p d put → x ∈ p ∨ x = d
  | [], d, put, x, h => by
    unfold addF at h; split at h
    · cases h
    · simp at h; exact .inr h
  | y :: r, d, put, x, h => by
    unfold addF at h
    split at h
    · rcases List.mem_cons.1 h with h | h
      · split at h
        · exact .inr h
        · exact .inl (by simp [h])
      · rcases addF_mem r d _ x h with h | h
        · exact .inl (by simp [h])
        · exact .inr h
    · split at h
      · rcases List.mem_cons.1 h with h | h
        · exact .inl (by simp [h])
        · rcases addF_mem r d _ x h with h | h
          · exact .inl (by simp [h])
          · exact .inr h
      · split at h
        · rcases List.mem_cons.1 h with h | h
          · exact .inl (by simp [h])
          · rcases addF_mem r d _ x h with h | h
            · exact .inl (by simp [h])
            · exact .inr h
        · rcases List.mem_cons.1 h with h | h
          · exact .inr h
          · rcases List.mem_cons.1 h with h | h
            · exact .inl (by simp [h])
            · rcases addF_mem r d _ x h with h | h
              · exact .inl (by simp [h])
              · exact .inr h
theorem add_mem (p : List Dep) (d x : Dep) (h : x ∈ add p d) : x ∈ p ∨ x = d := by
  unfold add at h; split at h
  · exact addF_mem p d false x h
  · exact .inl h
/-- where Add's loop stands -/
def At (p : List Dep) (d : Dep) (k : Nat) (put : Bool) (out : List Dep) : Prop := out ++ addF (p.drop k) d put = addF p d false
theorem At.eq {p : List Dep} {d : Dep} {k : Nat} {put : Bool} {out : List Dep} (h : At p d k put out) (hk : k < p.length) (he : eqB p[k] d = true) : At p d (k + 1) true (out ++ [if lessB p[k].n p[k].s d.n d.s then d else p[k]]) := by
  unfold At at *
  rw [← h, List.drop_eq_getElem_cons hk, addF, if_pos he]; simp
theorem At.skip {p : List Dep} {d : Dep} {k : Nat} {out : List Dep} (h : At p d k true out) (hk : k < p.length) (he : eqB p[k] d = false) : At p d (k + 1) true (out ++ [p[k]]) := by
  unfold At at *
  rw [← h, List.drop_eq_getElem_cons hk, addF, if_neg (by simp [he]), if_pos rfl]; simp
theorem At.lt {p : List Dep} {d : Dep} {k : Nat} {out : List Dep} (h : At p d k false out) (hk : k < p.length) (he : eqB p[k] d = false) (hl : ltB p[k] d = true) : At p d (k + 1) false (out ++ [p[k]]) := by
  unfold At at *
  rw [← h, List.drop_eq_getElem_cons hk, addF, if_neg (by simp [he]), if_neg (by simp), if_pos hl]; simp
theorem At.put {p : List Dep} {d : Dep} {k : Nat} {out : List Dep} (h : At p d k false out) (hk : k < p.length) (he : eqB p[k] d = false) (hl : ltB p[k] d = false) : At p d (k + 1) true (out ++ [d] ++ [p[k]]) := by
  unfold At at *
  rw [← h, List.drop_eq_getElem_cons hk, addF, if_neg (by simp [he]), if_neg (by simp), if_neg (by simp [hl])]; simp
end D
set_option maxRecDepth 100000 in
theorem rless_any (a b c d : Int) (w : World) :
    Calls Tryz.prog 27 #[.agg #[.int .i64 a, .int .i64 b], .agg #[.int .i64 c, .int .i64 d]] w fun e w' => e = .returned (.bool (D.lessB a b c d)) ∧ Ev.Ext w w' := by
  go_enter Tryz.func27, Tryz.ntmps27
  go_wp2
  all_goals (go_ret; exact ⟨by simp_all [D.lessB], extA2 _ _ _⟩)
theorem three_afterD {w w1 : World} {x0 x1 x2 : Value} {T : TypeId} (he : Ev.Ext (w.alloc (.cells #[x0, x1, x2] T)) w1) :
    w1.cell? ⟨w.heap.size, 0, none⟩ = some x0 ∧ w1.cell? ⟨w.heap.size, 1, none⟩ = some x1 ∧ w1.cell? ⟨w.heap.size, 2, none⟩ = some x2 :=
  ⟨cell_later he (by simp), cell_later he (by simp), cell_later he (by simp)⟩
/-- A variable of the call's own, behind an append. -/
theorem box_kept {e : TypeId} {K : Blocks} {B : Nat} {w w' : World} {v : Value} {xs : List Dep} {o : Obj} {x0 x1 x2 : Value} {T : TypeId} (h : Grow e K B w v xs) (hg : ((w.alloc (.cells #[x0, x1, x2] T)).alloc o).grownBy w' v.ownBlock) :
    w'.cell? ⟨w.heap.size, 0, none⟩ = some x0 ∧ w'.cell? ⟨w.heap.size, 1, none⟩ = some x1 ∧ w'.cell? ⟨w.heap.size, 2, none⟩ = some x2 := by
  have hb : w'.heap[w.heap.size]? = some (.cells #[x0, x1, x2] T) := by
    rw [hg.block _ (by simp; omega) (fun e1 => ?_), (extA _ o).block _ (by simp)]
    · exact heap_alloc_new _ _
    · obtain ⟨rows, hown, _⟩ := h.ex
      have := (hown.lt _ e1.symm).2
      omega
  simp [World.cell?, hb]
theorem heap_new2 (w : World) (o o' : Obj) : ((w.alloc o).alloc o').heap[w.heap.size + 1]? = some o' := by
  have := heap_alloc_new (w.alloc o) o'
  simpa using this
theorem heap_set3 (w : World) (a b c : Addr) (x y z : Value) (o : Obj) : ((((w.setCell a x).setCell b y).setCell c z).alloc o).heap[w.heap.size]? = some o := by
  have := heap_alloc_new (((w.setCell a x).setCell b y).setCell c z) o
  simpa [World.setCell] using this
theorem dep_row (d : Dep) (hd : d.key.size ≤ 9223372036854775807) (h1 : inI d.n) (h2 : inI d.s) {K : Blocks} {w : World} : All2 (GoT.rep K w) [[.string d.key, .int .i64 d.n, .int .i64 d.s]] [d] := .cons ⟨rfl, hd, h1, h2⟩ .nil
end Go.Proofs.YtmbaeloiepjakaaGreat

set_option linter.unusedSimpArgs false
set_option linter.unusedVariables false
namespace Go.Proofs.YtmbaeloiepjakaaGreat
open Go.RowKit A
set_option maxRecDepth 100000 in
theorem rless_a (a b c d : Int) : ACall Tryz.prog 27 [.row [iv a, iv b], .row [iv c, iv d]] (bv (D.lessB a b c d)) := by
  refine ACall_enter (fun _ _ => by kernel_rfl) Tryz.func27 rfl Tryz.ntmps27 Tryz.results27 (Nat.le_of_ble_eq_true rfl) (fun hok M0 w0 hnl => ?_)
  refine Aw_seq (Aw_region ?_)
  refine Al_p (Pu_boxN rfl rfl) ?_
  refine Al_p (Pu_boxN rfl rfl) ?_
  refine Al_p Pu_mvr ?_
  refine Al_nil (Aw_seq (Aw_seq (Aw_region ?_)))
  refine Al_p (Pu_field 0 rfl Tryz.underlying31 rfl rfl Tryz.sizeOf3 rfl) ?_
  refine Al_p (Pu_load1 rfl Tryz.isAgg3 rfl rfl) ?_
  refine Al_p (Pu_field 0 rfl Tryz.underlying31 rfl rfl Tryz.sizeOf3 rfl) ?_
  refine Al_p (Pu_load1 rfl Tryz.isAgg3 rfl rfl) ?_
  refine Al_p (Pu_cmp rfl rfl rfl rfl) ?_
  refine Al_nil ?_
  refine Aw_cond rfl (fun h9 => ?_) (fun h9 => ?_)
  · (try simp only [decide_eq_true_eq, decide_eq_false_iff_not, Bool.and_eq_true, Bool.or_eq_true, Bool.and_eq_false_iff, Bool.or_eq_false_iff, Bool.not_eq_true', Bool.not_eq_false', beq_iff_eq, Bool.not_eq_eq_eq_not, Bool.not_true, Bool.not_false, List.length_map, Bool.and_true, Bool.and_false, Bool.false_and, Bool.true_and, Bool.or_false, Bool.false_or] at h9)
    refine Aw_seq (Aw_region ?_)
    refine Al_p (Pu_field 0 rfl Tryz.underlying31 rfl rfl Tryz.sizeOf3 rfl) ?_
    refine Al_p (Pu_load1 rfl Tryz.isAgg3 rfl rfl) ?_
    refine Al_p (Pu_field 0 rfl Tryz.underlying31 rfl rfl Tryz.sizeOf3 rfl) ?_
    refine Al_p (Pu_load1 rfl Tryz.isAgg3 rfl rfl) ?_
    refine Al_p (Pu_cmp rfl rfl rfl rfl) ?_
    refine Al_p Pu_mvr ?_
    refine Al_nil ?_
    refine Aw_ret ?_
    exact Sub.d (by unfold D.lessB; simp_all) -- ret 0
  · (try simp only [decide_eq_true_eq, decide_eq_false_iff_not, Bool.and_eq_true, Bool.or_eq_true, Bool.and_eq_false_iff, Bool.or_eq_false_iff, Bool.not_eq_true', Bool.not_eq_false', beq_iff_eq, Bool.not_eq_eq_eq_not, Bool.not_true, Bool.not_false, List.length_map, Bool.and_true, Bool.and_false, Bool.false_and, Bool.true_and, Bool.or_false, Bool.false_or] at h9)
    refine Aw_skip (Aw_seq (Aw_region ?_))
    refine Al_p (Pu_field 1 rfl Tryz.underlying31 rfl rfl Tryz.sizeOf3 rfl) ?_
    refine Al_p (Pu_load1 rfl Tryz.isAgg3 rfl rfl) ?_
    refine Al_p (Pu_field 1 rfl Tryz.underlying31 rfl rfl Tryz.sizeOf3 rfl) ?_
    refine Al_p (Pu_load1 rfl Tryz.isAgg3 rfl rfl) ?_
    refine Al_p (Pu_cmp rfl rfl rfl rfl) ?_
    refine Al_p Pu_mvr ?_
    refine Al_nil ?_
    refine Aw_ret ?_
    exact Sub.d (by unfold D.lessB; simp_all) -- ret 1
theorem rcheck_a (s : ByteArray) : ACall Tryz.prog 88 [tv s] (bv (K.checkB s)) := A.ofv (fun _ _ => by kernel_rfl) trivial fun M w vs ha => by
  obtain ⟨rfl, h⟩ := A.all1 ha
  exact (rcheck_any s h w).mono fun e w' ⟨h1, h2⟩ => ⟨h1, h2 ▸ Ev.Ext.refl _⟩
theorem rstcheck_a (n s : Int) : ACall Tryz.prog 89 [.row [iv n, iv s]] (bv (V.stampB n s)) := A.ofv (fun _ _ => by kernel_rfl) trivial fun M w vs ha => by
  obtain rfl := A.all1r (us := [.int .i64 n, .int .i64 s]) ha
  exact rstcheck_any n s w
set_option maxRecDepth 100000 in
theorem dadd_a (p : List Dep) (d : Dep) (hl : p.length ≤ 1000) : ACall Tryz.prog 56 [.sl 3 (p.map Dep.row), .row d.row] (.sl 3 ((D.add p d).map Dep.row)) := by
  refine ACall_enter (fun _ _ => by kernel_rfl) Tryz.func56 rfl Tryz.ntmps56 Tryz.results56 (Nat.le_of_ble_eq_true rfl) (fun hok M0 w0 hnl => ?_)
  refine Aw_seq (Aw_region ?_)
  refine Al_p (Pu_boxN rfl rfl) ?_
  refine Al_p Pu_mvr ?_
  refine Al_nil (Aw_seq (Aw_region ?_))
  refine Al_p (Pu_field 0 rfl Tryz.underlying59 rfl rfl Tryz.sizeOf9 rfl) ?_
  refine Al_p (Pu_load1 rfl Tryz.isAgg9 rfl rfl) ?_
  refine Al_p (Pu_call (rcheck_a _) rfl ⟨Sub.rfl, trivial⟩) ?_
  refine Al_p Pu_mvr ?_
  refine Al_nil (Aw_seq (Aw_region ?_))
  refine Al_p (Pu_field 1 rfl Tryz.underlying59 rfl rfl Tryz.sizeOf31 rfl) ?_
  refine Al_p (Pu_loadN rfl Tryz.isAgg31 Tryz.sizeOf31 rfl (Nat.le_of_ble_eq_true rfl)) ?_
  refine Al_p (Pu_call (rstcheck_a _ _) rfl ⟨Sub.rfl, trivial⟩) ?_
  refine Al_p Pu_mvr ?_
  refine Al_nil (Aw_seq (Aw_seq (Aw_region ?_)))
  refine Al_p Pu_mvl ?_
  refine Al_p (Pu_not rfl rfl) ?_
  refine Al_p Pu_mvl ?_
  refine Al_st (St_gd [] rfl rfl rfl rfl trivial (fun hg20 => by exact Pu_move (.inl rfl) (by conv => lhs; whnf))) rfl (by decide) (by kernel_rfl) (by intro j b oj dj h1 h2 h3; cases h1; cases h2; cases h3; decide) ?_
  refine Al_st (St_gd [20] rfl rfl rfl rfl ⟨⟨_, rfl⟩, trivial⟩ (fun hg21 => Pu_not rfl rfl)) rfl (by decide) (by kernel_rfl) (by intro j b oj dj h1 h2 h3; cases h1; cases h2; cases h3; decide) ?_
  refine Al_p (Pu_or rfl rfl rfl rfl) ?_
  refine Al_nil ?_
  refine Aw_cond rfl (fun h22 => ?_) (fun h22 => ?_)
  · (try simp only [decide_eq_true_eq, decide_eq_false_iff_not, Bool.and_eq_true, Bool.or_eq_true, Bool.and_eq_false_iff, Bool.or_eq_false_iff, Bool.not_eq_true', Bool.not_eq_false', beq_iff_eq, Bool.not_eq_eq_eq_not, Bool.not_true, Bool.not_false, List.length_map, Bool.and_true, Bool.and_false, Bool.false_and, Bool.true_and, Bool.or_false, Bool.false_or] at h22)
    have hno : D.add p d = p := by
      unfold D.add D.okB
      rcases h22 with h | h <;> simp [h]
    refine Aw_seq (Aw_region ?_)
    refine Al_p Pu_mvl ?_
    refine Al_p Pu_mvr ?_
    refine Al_nil ?_
    refine Aw_ret ?_
    exact Sub.d (by rw [hno]) -- ret 0
  · (try simp only [decide_eq_true_eq, decide_eq_false_iff_not, Bool.and_eq_true, Bool.or_eq_true, Bool.and_eq_false_iff, Bool.or_eq_false_iff, Bool.not_eq_true', Bool.not_eq_false', beq_iff_eq, Bool.not_eq_eq_eq_not, Bool.not_true, Bool.not_false, List.length_map, Bool.and_true, Bool.and_false, Bool.false_and, Bool.true_and, Bool.or_false, Bool.false_or] at h22)
    have hdd : D.add p d = D.addF p d false := by simp [D.add, D.okB, h22.1, h22.2]
    refine Aw_skip (Aw_seq (Aw_region ?_))
    refine Al_p Pu_mvr ?_
    refine Al_nil (Aw_seq (Aw_region ?_))
    refine Al_p Pu_mvr ?_
    refine Al_nil (Aw_seq (Aw_seq (Aw_region ?_)))
    refine Al_p Pu_mvr ?_
    refine Al_nil (Aw_block ?_)
    refine Aw_own (j := 7) (k := 7) (T := 59) (n := 3) rfl (fun g0 => ?_)
    refine Aw_loopk (ι := Nat × Nat × Bool × (List Dep)) [0, 3] [] (fun (k, g, put, out) => [(9, .d (iv k)), (7, .ow 7 g), (8, .d (bv put))]) (fun (k, g, put, out) => [(7, g, .arr 59 3 (out.map Dep.row))]) (fun (k, g, put, out) => k ≤ p.length ∧ D.At p d k put out ∧ out.length ≤ 2 * k) (fun (k, g, put, out) => p.length - k) ((0, g0, false, [])) (⟨Nat.zero_le _, ⟨by simp [D.At], by simp⟩⟩) ⟨Sub.rfl, Sub.rfl, Sub.rfl, trivial⟩ ⟨rfl, trivial⟩ ?_
    rintro ⟨k, g, put, out⟩ ⟨hk0, ⟨hat, hlo⟩⟩
    refine Aw_seq (Aw_seq (Aw_region ?_))
    refine Al_p Pu_mvl ?_
    refine Al_p Pu_mvl ?_
    refine Al_p (Pu_len rfl Tryz.underlying32 rfl (by first | exact List.length_map .. | exact rfl)) ?_
    refine Al_p (Pu_cmp rfl rfl rfl rfl) ?_
    refine Al_nil ?_
    refine Aw_cond rfl (fun h27 => ?_) (fun h27 => ?_)
    · (try simp only [decide_eq_true_eq, decide_eq_false_iff_not, Bool.and_eq_true, Bool.or_eq_true, Bool.and_eq_false_iff, Bool.or_eq_false_iff, Bool.not_eq_true', Bool.not_eq_false', beq_iff_eq, Bool.not_eq_eq_eq_not, Bool.not_true, Bool.not_false, List.length_map, Bool.and_true, Bool.and_false, Bool.false_and, Bool.true_and, Bool.or_false, Bool.false_or] at h27)
      have hkl : k < p.length := by omega
      refine Aw_skip ?_
      -- join 0: live [0, 3, 7, 8, 9], turned [7, 8]
      refine Aw_seq (Aw_block (Aw_seq (Aw_region ?_)))
      refine Al_p Pu_mvl ?_
      refine Al_p Pu_mvl ?_
      refine Al_p (Pu_index rfl Tryz.underlying32 Tryz.sizeOf59 rfl rfl (rfl) (mapget (by omega))) ?_
      refine Al_p (Pu_loadN rfl Tryz.isAgg59 Tryz.sizeOf59 rfl (Nat.le_of_ble_eq_true rfl)) ?_
      refine Al_alloc rfl rfl rfl (by decide) Tryz.zeroValue59 rfl (by kernel_rfl) (fun g10 => ?_)
      refine Al_storeN rfl rfl rfl (by kernel_rfl) Tryz.isAgg59 Tryz.sizeOf59 rfl rfl rfl rfl (Nat.le_of_ble_eq_true rfl) ?_
      refine Al_nil ?_
      -- join 1: live [0, 3, 7, 8, 9, 10], turned [8]
      refine Aw_seq (Aw_seq (Aw_region ?_))
      refine Al_p (Pu_fieldb 0 rfl Tryz.underlying59 rfl rfl Tryz.sizeOf9 rfl) ?_
      refine Al_p (Pu_loadb rfl Tryz.isAgg9 rfl rfl rfl) ?_
      refine Al_p (Pu_field 0 rfl Tryz.underlying59 rfl rfl Tryz.sizeOf9 rfl) ?_
      refine Al_p (Pu_load1 rfl Tryz.isAgg9 rfl rfl) ?_
      refine Al_p (Pu_str rfl rfl rfl rfl) ?_
      refine Al_nil ?_
      refine Aw_cond rfl (fun h38 => ?_) (fun h38 => ?_)
      · skip
        have ha := hat.eq hkl h38
        -- join 2: live [0, 3, 7, 9, 10], turned []
        refine Aw_seq (Aw_seq (Aw_region ?_))
        refine Al_p (Pu_fieldb 1 rfl Tryz.underlying59 rfl rfl Tryz.sizeOf31 rfl) ?_
        refine Al_p (Pu_loadbN (r := [_, _]) rfl Tryz.isAgg31 Tryz.sizeOf31 rfl rfl rfl rfl) ?_
        refine Al_p (Pu_field 1 rfl Tryz.underlying59 rfl rfl Tryz.sizeOf31 rfl) ?_
        refine Al_p (Pu_loadN rfl Tryz.isAgg31 Tryz.sizeOf31 rfl (Nat.le_of_ble_eq_true rfl)) ?_
        refine Al_p (Pu_call (rless_a _ _ _ _) rfl ⟨Sub.rfl, Sub.rfl, trivial⟩) ?_
        refine Al_nil ?_
        refine Aw_cond rfl (fun h43 => ?_) (fun h43 => ?_)
        · skip
          rw [h43] at ha
          refine Aw_region ?_
          refine Al_p (Pu_loadN rfl Tryz.isAgg59 Tryz.sizeOf59 rfl (Nat.le_of_ble_eq_true rfl)) ?_
          refine Al_storeN rfl rfl rfl (by kernel_rfl) Tryz.isAgg59 Tryz.sizeOf59 rfl rfl rfl rfl (Nat.le_of_ble_eq_true rfl) ?_
          refine Al_nil (Aw_region ?_)
          refine Al_p Pu_mvr ?_
          refine Al_nil ?_
          -- join 3: live [0, 3, 7, 8, 9, 10], turned [7, 8]
          refine Aw_seq (Aw_seq (Aw_region ?_))
          refine Al_p Pu_mvl ?_
          refine Al_p (Pu_not rfl rfl) ?_
          refine Al_p Pu_mvl ?_
          refine Al_st (St_gd [] rfl rfl rfl rfl trivial (fun hg48 => Pu_fieldb 0 rfl Tryz.underlying59 rfl rfl Tryz.sizeOf9 rfl)) rfl (by decide) (by kernel_rfl) (by intro j b oj dj h1 h2 h3; cases h1; cases h2; cases h3; decide) ?_
          refine Al_st (St_gd [48] rfl rfl rfl rfl ⟨⟨_, rfl⟩, trivial⟩ (fun hg49 => Pu_loadb rfl Tryz.isAgg9 rfl rfl rfl)) rfl (by decide) (by kernel_rfl) (by intro j b oj dj h1 h2 h3; cases h1; cases h2; cases h3; decide) ?_
          refine Al_st (St_gd [] rfl rfl rfl rfl trivial (fun hg50 => Pu_field 0 rfl Tryz.underlying59 rfl rfl Tryz.sizeOf9 rfl)) rfl (by decide) (by kernel_rfl) (by intro j b oj dj h1 h2 h3; cases h1; cases h2; cases h3; decide) ?_
          refine Al_st (St_gd [50] rfl rfl rfl rfl ⟨⟨_, rfl⟩, trivial⟩ (fun hg51 => Pu_load1 rfl Tryz.isAgg9 rfl rfl)) rfl (by decide) (by kernel_rfl) (by intro j b oj dj h1 h2 h3; cases h1; cases h2; cases h3; decide) ?_
          refine Al_st (St_gd [49, 51] rfl rfl rfl rfl ⟨⟨_, rfl⟩, ⟨_, rfl⟩, trivial⟩ (fun hg52 => Pu_str rfl rfl rfl rfl)) rfl (by decide) (by kernel_rfl) (by intro j b oj dj h1 h2 h3; cases h1; cases h2; cases h3; decide) ?_
          refine Al_p (Pu_and rfl rfl rfl rfl) ?_
          refine Al_nil ?_
          refine Aw_cond rfl (fun h53 => ?_) (fun h53 => ?_)
          · (exfalso; revert h53; simp; done) -- next 0.0
          · first
            | (exfalso; revert h53; simp; done)
            | (
                skip
                refine Aw_skip (Aw_region ?_)
                refine Al_p Pu_mvl ?_
                refine Al_p (Pu_loadbN (r := [_, _, _]) rfl Tryz.isAgg59 Tryz.sizeOf59 rfl rfl rfl rfl) ?_
                refine Al_p (Pu_slice1 rfl Tryz.underlying32 Tryz.sizeOf59 Tryz.zeroValue59 rfl (by decide) (by decide) (by kernel_rfl) rfl rfl rfl) ?_
                refine Al_append rfl rfl rfl (by decide) (by kernel_rfl) elem32 (by decide) Tryz.sizeOf59 rfl rfl rfl (by simp; omega) (by decide) (fun g61 => ?_)
                refine Al_p Pu_mvr ?_
                refine Al_nil (Aw_region ?_)
                refine Al_p Pu_mvl ?_
                refine Al_p (Pu_add rfl rfl rfl (fun h1 h2 => by simp only [A.inI, A.maxI] at *; omega)) ?_
                refine Al_p Pu_mvr ?_
                refine Al_nil ?_
                exact ⟨(k + 1, g61, true, out ++ [d]), ⟨by omega, ⟨by simpa using ha, by simp; omega⟩⟩, by simp only []; omega, Le.ov ⟨Sub.num (by omega), Sub.rfl, Sub.rfl, trivial⟩ ⟨Sub.rfl, Sub.rfl, trivial⟩ ⟨obeq (by rw [List.map_append]; rfl), trivial⟩ trivial⟩) -- loop 0 next.1
        · skip
          rw [h43] at ha
          refine Aw_skip (Aw_region ?_)
          refine Al_p Pu_mvr ?_
          refine Al_nil ?_
          -- join 3: live [0, 3, 7, 8, 9, 10], turned [7, 8]
          refine Aw_seq (Aw_seq (Aw_region ?_))
          refine Al_p Pu_mvl ?_
          refine Al_p (Pu_not rfl rfl) ?_
          refine Al_p Pu_mvl ?_
          refine Al_st (St_gd [] rfl rfl rfl rfl trivial (fun hg48 => Pu_fieldb 0 rfl Tryz.underlying59 rfl rfl Tryz.sizeOf9 rfl)) rfl (by decide) (by kernel_rfl) (by intro j b oj dj h1 h2 h3; cases h1; cases h2; cases h3; decide) ?_
          refine Al_st (St_gd [48] rfl rfl rfl rfl ⟨⟨_, rfl⟩, trivial⟩ (fun hg49 => Pu_loadb rfl Tryz.isAgg9 rfl rfl rfl)) rfl (by decide) (by kernel_rfl) (by intro j b oj dj h1 h2 h3; cases h1; cases h2; cases h3; decide) ?_
          refine Al_st (St_gd [] rfl rfl rfl rfl trivial (fun hg50 => Pu_field 0 rfl Tryz.underlying59 rfl rfl Tryz.sizeOf9 rfl)) rfl (by decide) (by kernel_rfl) (by intro j b oj dj h1 h2 h3; cases h1; cases h2; cases h3; decide) ?_
          refine Al_st (St_gd [50] rfl rfl rfl rfl ⟨⟨_, rfl⟩, trivial⟩ (fun hg51 => Pu_load1 rfl Tryz.isAgg9 rfl rfl)) rfl (by decide) (by kernel_rfl) (by intro j b oj dj h1 h2 h3; cases h1; cases h2; cases h3; decide) ?_
          refine Al_st (St_gd [49, 51] rfl rfl rfl rfl ⟨⟨_, rfl⟩, ⟨_, rfl⟩, trivial⟩ (fun hg52 => Pu_str rfl rfl rfl rfl)) rfl (by decide) (by kernel_rfl) (by intro j b oj dj h1 h2 h3; cases h1; cases h2; cases h3; decide) ?_
          refine Al_p (Pu_and rfl rfl rfl rfl) ?_
          refine Al_nil ?_
          refine Aw_cond rfl (fun h53 => ?_) (fun h53 => ?_)
          · (exfalso; revert h53; simp; done) -- next 0.2
          · first
            | (exfalso; revert h53; simp; done)
            | (
                skip
                refine Aw_skip (Aw_region ?_)
                refine Al_p Pu_mvl ?_
                refine Al_p (Pu_loadbN (r := [_, _, _]) rfl Tryz.isAgg59 Tryz.sizeOf59 rfl rfl rfl rfl) ?_
                refine Al_p (Pu_slice1 rfl Tryz.underlying32 Tryz.sizeOf59 Tryz.zeroValue59 rfl (by decide) (by decide) (by kernel_rfl) rfl rfl rfl) ?_
                refine Al_append rfl rfl rfl (by decide) (by kernel_rfl) elem32 (by decide) Tryz.sizeOf59 rfl rfl rfl (by simp; omega) (by decide) (fun g61 => ?_)
                refine Al_p Pu_mvr ?_
                refine Al_nil (Aw_region ?_)
                refine Al_p Pu_mvl ?_
                refine Al_p (Pu_add rfl rfl rfl (fun h1 h2 => by simp only [A.inI, A.maxI] at *; omega)) ?_
                refine Al_p Pu_mvr ?_
                refine Al_nil ?_
                exact ⟨(k + 1, g61, true, out ++ [p[k]]), ⟨by omega, ⟨by simpa using ha, by simp; omega⟩⟩, by simp only []; omega, Le.ov ⟨Sub.num (by omega), Sub.rfl, Sub.rfl, trivial⟩ ⟨Sub.rfl, Sub.rfl, trivial⟩ ⟨obeq (by rw [List.map_append]; rfl), trivial⟩ trivial⟩) -- loop 0 next.3
      · skip
        refine Aw_skip ?_
        -- join 3: live [0, 3, 7, 8, 9, 10], turned [7, 8]
        refine Aw_seq (Aw_seq (Aw_region ?_))
        refine Al_p Pu_mvl ?_
        refine Al_p (Pu_not rfl rfl) ?_
        refine Al_p Pu_mvl ?_
        refine Al_st (St_gd [] rfl rfl rfl rfl trivial (fun hg48 => Pu_fieldb 0 rfl Tryz.underlying59 rfl rfl Tryz.sizeOf9 rfl)) rfl (by decide) (by kernel_rfl) (by intro j b oj dj h1 h2 h3; cases h1; cases h2; cases h3; decide) ?_
        refine Al_st (St_gd [48] rfl rfl rfl rfl ⟨⟨_, rfl⟩, trivial⟩ (fun hg49 => Pu_loadb rfl Tryz.isAgg9 rfl rfl rfl)) rfl (by decide) (by kernel_rfl) (by intro j b oj dj h1 h2 h3; cases h1; cases h2; cases h3; decide) ?_
        refine Al_st (St_gd [] rfl rfl rfl rfl trivial (fun hg50 => Pu_field 0 rfl Tryz.underlying59 rfl rfl Tryz.sizeOf9 rfl)) rfl (by decide) (by kernel_rfl) (by intro j b oj dj h1 h2 h3; cases h1; cases h2; cases h3; decide) ?_
        refine Al_st (St_gd [50] rfl rfl rfl rfl ⟨⟨_, rfl⟩, trivial⟩ (fun hg51 => Pu_load1 rfl Tryz.isAgg9 rfl rfl)) rfl (by decide) (by kernel_rfl) (by intro j b oj dj h1 h2 h3; cases h1; cases h2; cases h3; decide) ?_
        refine Al_st (St_gd [49, 51] rfl rfl rfl rfl ⟨⟨_, rfl⟩, ⟨_, rfl⟩, trivial⟩ (fun hg52 => Pu_str rfl rfl rfl rfl)) rfl (by decide) (by kernel_rfl) (by intro j b oj dj h1 h2 h3; cases h1; cases h2; cases h3; decide) ?_
        refine Al_p (Pu_and rfl rfl rfl rfl) ?_
        refine Al_nil ?_
        refine Aw_cond rfl (fun h53 => ?_) (fun h53 => ?_)
        · first
          | (exfalso; revert h53; simp; done)
          | (
              skip
              have hb : put = false ∧ D.ltB p[k] d = false := by
                revert h53; unfold D.ltB; cases put <;> simp_all
              obtain ⟨rfl, hlt⟩ := hb
              have ha := hat.put hkl h38 hlt
              refine Aw_seq (Aw_region ?_)
              refine Al_p Pu_mvl ?_
              refine Al_p (Pu_loadN rfl Tryz.isAgg59 Tryz.sizeOf59 rfl (Nat.le_of_ble_eq_true rfl)) ?_
              refine Al_p (Pu_slice1 rfl Tryz.underlying32 Tryz.sizeOf59 Tryz.zeroValue59 rfl (by decide) (by decide) (by kernel_rfl) rfl rfl rfl) ?_
              refine Al_append rfl rfl rfl (by decide) (by kernel_rfl) elem32 (by decide) Tryz.sizeOf59 rfl rfl rfl (by simp; omega) (by decide) (fun g57 => ?_)
              refine Al_p Pu_mvr ?_
              refine Al_nil (Aw_region ?_)
              refine Al_p Pu_mvr ?_
              refine Al_nil (Aw_region ?_)
              refine Al_p Pu_mvl ?_
              refine Al_p (Pu_loadbN (r := [_, _, _]) rfl Tryz.isAgg59 Tryz.sizeOf59 rfl rfl rfl rfl) ?_
              refine Al_p (Pu_slice1 rfl Tryz.underlying32 Tryz.sizeOf59 Tryz.zeroValue59 rfl (by decide) (by decide) (by kernel_rfl) rfl rfl rfl) ?_
              refine Al_append rfl rfl rfl (by decide) (by kernel_rfl) elem32 (by decide) Tryz.sizeOf59 rfl rfl rfl (by simp; omega) (by decide) (fun g61 => ?_)
              refine Al_p Pu_mvr ?_
              refine Al_nil (Aw_region ?_)
              refine Al_p Pu_mvl ?_
              refine Al_p (Pu_add rfl rfl rfl (fun h1 h2 => by simp only [A.inI, A.maxI] at *; omega)) ?_
              refine Al_p Pu_mvr ?_
              refine Al_nil ?_
              exact ⟨(k + 1, g61, true, out ++ [d] ++ [p[k]]), ⟨by omega, ⟨ha, by simp; omega⟩⟩, by simp only []; omega, Le.ov ⟨Sub.num (by omega), Sub.rfl, Sub.rfl, trivial⟩ ⟨Sub.rfl, Sub.rfl, trivial⟩ ⟨obeq (by rw [List.map_append, List.map_append]; rfl), trivial⟩ trivial⟩) -- loop 0 next.4
        · first
          | (exfalso; revert h53; simp; done)
          | (
              skip
              have ha : D.At p d (k + 1) put (out ++ [p[k]]) := by
                cases hp : put
                · rw [hp] at h53 hat
                  refine hat.lt hkl h38 ?_
                  have h38' := h38
                  unfold D.ltB
                  simp only [Bool.not_false, Bool.true_and, Bool.not_eq_false', Bool.or_eq_true] at h53
                  rcases h53 with h | h
                  · exact h
                  · rw [h38'] at h; cases h
                · rw [hp] at hat
                  exact hat.skip hkl h38
              refine Aw_skip (Aw_region ?_)
              refine Al_p Pu_mvl ?_
              refine Al_p (Pu_loadbN (r := [_, _, _]) rfl Tryz.isAgg59 Tryz.sizeOf59 rfl rfl rfl rfl) ?_
              refine Al_p (Pu_slice1 rfl Tryz.underlying32 Tryz.sizeOf59 Tryz.zeroValue59 rfl (by decide) (by decide) (by kernel_rfl) rfl rfl rfl) ?_
              refine Al_append rfl rfl rfl (by decide) (by kernel_rfl) elem32 (by decide) Tryz.sizeOf59 rfl rfl rfl (by simp; omega) (by decide) (fun g61 => ?_)
              refine Al_p Pu_mvr ?_
              refine Al_nil (Aw_region ?_)
              refine Al_p Pu_mvl ?_
              refine Al_p (Pu_add rfl rfl rfl (fun h1 h2 => by simp only [A.inI, A.maxI] at *; omega)) ?_
              refine Al_p Pu_mvr ?_
              refine Al_nil ?_
              exact ⟨(k + 1, g61, put, out ++ [p[k]]), ⟨by omega, ⟨ha, by simp; omega⟩⟩, by simp only []; omega, Le.ov ⟨Sub.num (by omega), Sub.rfl, Sub.rfl, trivial⟩ ⟨Sub.rfl, Sub.rfl, trivial⟩ ⟨obeq (by rw [List.map_append]; rfl), trivial⟩ trivial⟩) -- loop 0 next.5
    · (try simp only [decide_eq_true_eq, decide_eq_false_iff_not, Bool.and_eq_true, Bool.or_eq_true, Bool.and_eq_false_iff, Bool.or_eq_false_iff, Bool.not_eq_true', Bool.not_eq_false', beq_iff_eq, Bool.not_eq_eq_eq_not, Bool.not_true, Bool.not_false, List.length_map, Bool.and_true, Bool.and_false, Bool.false_and, Bool.true_and, Bool.or_false, Bool.false_or] at h27)
      obtain rfl : k = p.length := by omega
      have he : out ++ D.addF [] d put = D.add p d := by rw [hdd]; have := hat; unfold D.At at this; rwa [List.drop_length] at this
      refine Aw_exit ?_
      -- join 4: live [7], turned [7]
      refine Aw_seq (Aw_seq (Aw_region ?_))
      refine Al_p Pu_mvl ?_
      refine Al_p (Pu_not rfl rfl) ?_
      refine Al_nil ?_
      refine Aw_cond rfl (fun h63 => ?_) (fun h63 => ?_)
      · (try simp only [decide_eq_true_eq, decide_eq_false_iff_not, Bool.and_eq_true, Bool.or_eq_true, Bool.and_eq_false_iff, Bool.or_eq_false_iff, Bool.not_eq_true', Bool.not_eq_false', beq_iff_eq, Bool.not_eq_eq_eq_not, Bool.not_true, Bool.not_false, List.length_map, Bool.and_true, Bool.and_false, Bool.false_and, Bool.true_and, Bool.or_false, Bool.false_or] at h63)
        have he2 : out ++ [d] = D.add p d := by rw [← he]; simp_all [D.addF]
        refine Aw_region ?_
        refine Al_p Pu_mvl ?_
        refine Al_p (Pu_loadN rfl Tryz.isAgg59 Tryz.sizeOf59 rfl (Nat.le_of_ble_eq_true rfl)) ?_
        refine Al_p (Pu_slice1 rfl Tryz.underlying32 Tryz.sizeOf59 Tryz.zeroValue59 rfl (by decide) (by decide) (by kernel_rfl) rfl rfl rfl) ?_
        refine Al_append rfl rfl rfl (by decide) (by kernel_rfl) elem32 (by decide) Tryz.sizeOf59 rfl rfl rfl (by simp; omega) (by decide) (fun g67 => ?_)
        refine Al_p Pu_mvr ?_
        refine Al_nil (Aw_seq (Aw_region ?_))
        refine Al_p Pu_mvl ?_
        refine Al_p Pu_mvr ?_
        refine Al_nil ?_
        refine Aw_frz hnl (k := 7) [4] rfl ⟨rfl, trivial⟩ ?_
        refine Aw_ret ?_
        exact Sub.d (by rw [← he2, List.map_append]; rfl) -- ret 1
      · (try simp only [decide_eq_true_eq, decide_eq_false_iff_not, Bool.and_eq_true, Bool.or_eq_true, Bool.and_eq_false_iff, Bool.or_eq_false_iff, Bool.not_eq_true', Bool.not_eq_false', beq_iff_eq, Bool.not_eq_eq_eq_not, Bool.not_true, Bool.not_false, List.length_map, Bool.and_true, Bool.and_false, Bool.false_and, Bool.true_and, Bool.or_false, Bool.false_or] at h63)
        have he2 : out = D.add p d := by rw [← he]; simp_all [D.addF]
        refine Aw_skip (Aw_seq (Aw_region ?_))
        refine Al_p Pu_mvl ?_
        refine Al_p Pu_mvr ?_
        refine Al_nil ?_
        refine Aw_frz hnl (k := 7) [4] rfl ⟨rfl, trivial⟩ ?_
        refine Aw_ret ?_
        exact Sub.d (by rw [he2]) -- ret 2
end Go.Proofs.YtmbaeloiepjakaaGreat
