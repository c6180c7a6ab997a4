/- queue: Misses, Check, Push, Next, Drop; past.Only; stamp.Next. -/
import Derived.Test.YtmbaeloiepjakaaGreatJSh
import Derived.Test.YtmbaeloiepjakaaGreatAQ
import Derived.Test.YtmbaeloiepjakaaGreatAN
set_option linter.unusedSimpArgs false
set_option linter.unusedVariables false
set_option maxRecDepth 100000
namespace Go.Proofs.YtmbaeloiepjakaaGreat
open Go.RowKit A R
open A.RowT
set_option maxRecDepth 100000 in
theorem indexD_a (l : List Dep) (f : FuncId) (caps : List AV) (p : Dep → Bool) (hf : ∀ x, ACall Tryz.prog f ([.row x.row] ++ caps) (bv (p x))) : ACall Tryz.prog 138 [.sl 3 (l.map Dep.row), .fn f caps] (iv (S.find p l)) := by
  refine ACall_enter (fun _ _ => by kernel_rfl) Tryz.func138 rfl Tryz.ntmps138 Tryz.results138 (Nat.le_of_ble_eq_true rfl) (fun hok M0 w0 hnl => ?_)
  have hlen := (hok _ (List.mem_cons_self ..)).len
  rw [List.length_map] at hlen
  refine Aw_seq (Aw_region ?_)
  refine Al_p Pu_mvr ?_
  refine Al_nil (Aw_seq (Aw_seq (Aw_region ?_)))
  refine Al_p Pu_mvl ?_
  refine Al_p (Pu_len rfl Tryz.underlying32 rfl (by first | exact List.length_map .. | exact rfl)) ?_
  refine Al_p Pu_mvl ?_
  refine Al_nil (Aw_block ?_)
  refine Aw_loopk (ι := Nat) [0, 1, 7] [] (fun k => [(8, .d (iv k))]) (fun k => []) (fun k => k ≤ l.length ∧ ∀ j (h : j < l.length), j < k → p l[j] = false) (fun k => l.length - k) (0) (⟨Nat.zero_le _, by intros; omega⟩) ⟨Sub.rfl, trivial⟩ trivial ?_
  rintro k ⟨hk0, hk2⟩
  refine Aw_seq (Aw_region ?_)
  refine Al_p (Pu_cmp rfl rfl rfl rfl) ?_
  refine Al_nil (Aw_seq ?_)
  refine Aw_cond rfl (fun h9 => ?_) (fun h9 => ?_)
  · (try simp only [decide_eq_true_eq, decide_eq_false_iff_not, Bool.and_eq_true, Bool.or_eq_true, Bool.and_eq_false_iff, Bool.or_eq_false_iff, Bool.not_eq_true', Bool.not_eq_false', beq_iff_eq, Bool.not_eq_eq_eq_not, Bool.not_true, Bool.not_false, List.length_map, Bool.and_true, Bool.and_false, Bool.false_and, Bool.true_and, Bool.or_false, Bool.false_or] at h9)
    have hk : k < l.length := by omega
    refine Aw_skip (Aw_seq (Aw_block (Aw_seq (Aw_region ?_))))
    refine Al_p Pu_mvl ?_
    refine Al_p Pu_mvr ?_
    refine Al_nil (Aw_seq (Aw_region ?_))
    refine Al_p Pu_mvl ?_
    refine Al_p Pu_mvl ?_
    refine Al_p Pu_mvl ?_
    refine Al_p (Pu_index rfl Tryz.underlying32 Tryz.sizeOf59 rfl rfl (rfl) (mapget hk)) ?_
    refine Al_p (Pu_loadN rfl Tryz.isAgg59 Tryz.sizeOf59 rfl (Nat.le_of_ble_eq_true rfl)) ?_
    refine Al_p (Pu_callv (aa := [(fun x => .row x.row) l[k]]) (caps := caps) (hf l[k]) rfl rfl ⟨Sub.rfl, trivial⟩) ?_
    refine Al_nil ?_
    refine Aw_cond rfl (fun h16 => ?_) (fun h16 => ?_)
    · skip
      refine Aw_seq (Aw_region ?_)
      refine Al_p Pu_mvl ?_
      refine Al_p Pu_mvr ?_
      refine Al_nil ?_
      refine Aw_ret ?_
      exact Sub.num (S.find_at hk h16 hk2) -- ret 0
    · skip
      have h16' : p l[k] = false := h16
      refine Aw_skip (Aw_region ?_)
      refine Al_p (Pu_add rfl rfl rfl (fun h1 h2 => by simp only [A.inI, A.maxI] at *; omega)) ?_
      refine Al_p Pu_mvl ?_
      refine Al_nil ?_
      exact ⟨k + 1, ⟨by omega, fun j hj hjk => by
        by_cases e : j = k
        · subst e; exact h16'
        · exact hk2 j hj (by omega)⟩, by omega, Le.ov ⟨Sub.num (by omega), trivial⟩ ⟨Sub.rfl, Sub.rfl, Sub.rfl, trivial⟩ trivial trivial⟩ -- loop 0 next.0
  · (try simp only [decide_eq_true_eq, decide_eq_false_iff_not, Bool.and_eq_true, Bool.or_eq_true, Bool.and_eq_false_iff, Bool.or_eq_false_iff, Bool.not_eq_true', Bool.not_eq_false', beq_iff_eq, Bool.not_eq_eq_eq_not, Bool.not_true, Bool.not_false, List.length_map, Bool.and_true, Bool.and_false, Bool.false_and, Bool.true_and, Bool.or_false, Bool.false_or] at h9)
    obtain rfl : k = l.length := by omega
    refine Aw_exit (Aw_seq (Aw_region ?_))
    refine Al_p Pu_mvr ?_
    refine Al_nil ?_
    refine Aw_ret ?_
    exact Sub.num (S.find_no hk2) -- ret 1
set_option maxRecDepth 100000 in
set_option maxHeartbeats 1000000 in
theorem delfuncD_g (l : List Dep) (f : FuncId) (caps : List AV) (p : Dep → Bool) (hf : ∀ x, ACall Tryz.prog f ([.row x.row] ++ caps) (bv (p x))) (hl : l.length ≤ 1000000) : GCall Tryz.prog 123 [.ow 1001 0, .d (.fn f caps)] [(1001, .arr 59 3 (l.map Dep.row))] (some ([(1002, .arr 59 3 ((l.filter fun x => !p x).map Dep.row))], .ow 1002 0)) := by
  refine GCall_enter (fun _ _ => by kernel_rfl) Tryz.func123 rfl Tryz.ntmps123 (ReadsS.r1 Tryz.results123) (Nat.le_of_ble_eq_true rfl) (fun hok hokB M0 w0 => ?_)
  have hu : ∀ (c : List Dep), ∀ r ∈ c.map Dep.row, r.length = 3 := fun c r hr => by obtain ⟨x, _, rfl⟩ := List.mem_map.1 hr; rfl
  refine Aw_seq (Aw_region ?_)
  refine Al_p Pu_mvr ?_
  refine Al_nil (Aw_seq (Aw_region ?_))
  refine Al_p Pu_mvl ?_
  refine Al_p Pu_mvl ?_
  refine Al_p (Pu_callR (indexD_a l f caps p hf) rfl rfl ⟨.inr ⟨1001, 0, _, _, _, rfl, rfl, rfl⟩, .inl Sub.rfl, trivial⟩) ?_
  refine Al_p Pu_mvr ?_
  refine Al_nil (Aw_seq (Aw_seq (Aw_region ?_)))
  refine Al_p Pu_mvl ?_
  refine Al_p (Pu_cmp rfl rfl rfl rfl) ?_
  refine Al_nil ?_
  refine Aw_cond rfl (fun h12 => ?_) (fun h12 => ?_)
  · (try simp only [decide_eq_true_eq, decide_eq_false_iff_not, Bool.and_eq_true, Bool.or_eq_true, Bool.and_eq_false_iff, Bool.or_eq_false_iff, Bool.not_eq_true', Bool.not_eq_false', beq_iff_eq, Bool.not_eq_eq_eq_not, Bool.not_true, Bool.not_false, List.length_map, Bool.and_true, Bool.and_false, Bool.false_and, Bool.true_and, Bool.or_false, Bool.false_or] at h12)
    have hno := S.find_neg h12
    refine Aw_seq (Aw_region ?_)
    refine Al_p Pu_mvl ?_
    refine Al_p Pu_mvr ?_
    refine Al_nil ?_
    refine Aw_ret ?_
    exact ⟨_, _, [(1002, 1001, 0)], rfl, Sub.rfl, ⟨obeq (by rw [hno]), trivial⟩, rfl⟩ -- ret 0
  · (try simp only [decide_eq_true_eq, decide_eq_false_iff_not, Bool.and_eq_true, Bool.or_eq_true, Bool.and_eq_false_iff, Bool.or_eq_false_iff, Bool.not_eq_true', Bool.not_eq_false', beq_iff_eq, Bool.not_eq_eq_eq_not, Bool.not_true, Bool.not_false, List.length_map, Bool.and_true, Bool.and_false, Bool.false_and, Bool.true_and, Bool.or_false, Bool.false_or] at h12)
    obtain ⟨i0, hi0, hfi, hpi, hbef⟩ := S.find_pos (p := p) (l := l) h12
    refine Aw_skip (Aw_seq (Aw_seq (Aw_region ?_)))
    refine Al_p Pu_mvl ?_
    refine Al_p (Pu_add rfl rfl rfl (fun h1 h2 => by simp only [A.inI, A.maxI] at *; omega)) ?_
    refine Al_p Pu_mvr ?_
    refine Al_nil (Aw_block ?_)
    refine Aw_loopk (ι := Nat × Nat × (List Dep)) [0, 1] [] (fun (i, j, c) => [(5, .d (iv i)), (6, .d (iv j))]) (fun (i, j, c) => [(1001, 0, .arr 59 3 (c.map Dep.row))]) (fun (i, j, c) => c.length = l.length ∧ i ≤ j ∧ j ≤ l.length ∧ c.take i = (l.take j).filter (fun x => !p x) ∧ c.drop j = l.drop j ∧ i < j) (fun (i, j, c) => l.length - j) (i0, i0 + 1, l) (⟨rfl, by omega, by omega, S.filter_first hi0 hpi hbef, rfl, by omega⟩) ⟨Sub.num hfi, Sub.num (by rw [hfi]; omega), trivial⟩ ⟨rfl, trivial⟩ ?_
    rintro ⟨i, j, c⟩ ⟨hcl, hij, hjl, hct, hcd, hij2⟩
    refine Aw_seq (Aw_seq (Aw_region ?_))
    refine Al_p Pu_mvl ?_
    refine Al_p Pu_mvl ?_
    refine Al_p (Pu_lenOw (m := l.length) rfl Tryz.underlying32 rfl rfl (by rw [List.length_map, hcl])) ?_
    refine Al_p (Pu_cmp rfl rfl rfl rfl) ?_
    refine Al_nil ?_
    refine Aw_cond rfl (fun h19 => ?_) (fun h19 => ?_)
    · (try simp only [decide_eq_true_eq, decide_eq_false_iff_not, Bool.and_eq_true, Bool.or_eq_true, Bool.and_eq_false_iff, Bool.or_eq_false_iff, Bool.not_eq_true', Bool.not_eq_false', beq_iff_eq, Bool.not_eq_eq_eq_not, Bool.not_true, Bool.not_false, List.length_map, Bool.and_true, Bool.and_false, Bool.false_and, Bool.true_and, Bool.or_false, Bool.false_or] at h19)
      have hj : j < l.length := by omega
      have hjc : j < (c.map Dep.row).length := by rw [List.length_map]; omega
      have hcj : c.getD j default = l[j] := S.drop_at hcd hj (by omega)
      have hrow := S.row_at (hu c) hjc
      rw [S.map_getD (by omega : j < c.length), hcj] at hrow
      have hset := S.flat_set (hu c) (x := Dep.row l[j]) (i := i) (by rw [List.length_map]; omega) rfl
      refine Aw_skip ?_
      -- join 0: live [0, 1, 5, 6], turned [5]
      refine Aw_seq (Aw_block (Aw_seq (Aw_region ?_)))
      refine Al_p Pu_mvl ?_
      refine Al_p Pu_mvl ?_
      refine Al_p (Pu_indexOw (j := j) rfl Tryz.underlying32 Tryz.sizeOf59 rfl rfl rfl rfl hjc) ?_
      refine Al_p (Pu_loadArrN rfl Tryz.isAgg59 Tryz.sizeOf59 rfl rfl hrow rfl) ?_
      refine Al_alloc rfl rfl rfl (by decide) Tryz.zeroValue59 rfl (by kernel_rfl) (fun g7 => ?_)
      refine Al_storeN rfl rfl rfl (by kernel_rfl) Tryz.isAgg59 Tryz.sizeOf59 rfl rfl rfl rfl (Nat.le_of_ble_eq_true rfl) ?_
      refine Al_nil (Aw_seq (Aw_region ?_))
      refine Al_p Pu_mvl ?_
      refine Al_p (Pu_loadbN (r := [_, _, _]) rfl Tryz.isAgg59 Tryz.sizeOf59 rfl rfl rfl rfl) ?_
      refine Al_p (Pu_callv (aa := [(fun x => .row x.row) l[j]]) (caps := caps) (hf l[j]) rfl rfl ⟨Sub.rfl, trivial⟩) ?_
      refine Al_p (Pu_not rfl rfl) ?_
      refine Al_nil ?_
      refine Aw_cond rfl (fun h29 => ?_) (fun h29 => ?_)
      · skip
        have hpj : p l[j] = false := by simpa using h29
        refine Aw_seq (Aw_region ?_)
        refine Al_p Pu_mvl ?_
        refine Al_p Pu_mvl ?_
        refine Al_p (Pu_loadbN (r := [_, _, _]) rfl Tryz.isAgg59 Tryz.sizeOf59 rfl rfl rfl rfl) ?_
        refine Al_p (Pu_indexOw (j := i) rfl Tryz.underlying32 Tryz.sizeOf59 rfl rfl rfl rfl (by rw [List.length_map]; omega)) ?_
        refine Al_storeArr ((c.map Dep.row).set i (Dep.row l[j])) rfl rfl rfl (by kernel_rfl) Tryz.sizeOf59 rfl rfl rfl rfl rfl (by rw [List.length_map]; omega) (by simp) (fun q hq => by rcases List.mem_or_eq_of_mem_set hq with h | rfl; exact hu c q h; rfl) hset ?_
        refine Al_nil (Aw_region ?_)
        refine Al_p Pu_mvl ?_
        refine Al_p (Pu_add rfl rfl rfl (fun h1 h2 => by simp only [A.inI, A.maxI] at *; omega)) ?_
        refine Al_p Pu_mvr ?_
        refine Al_nil (Aw_region ?_)
        refine Al_p Pu_mvl ?_
        refine Al_p (Pu_add rfl rfl rfl (fun h1 h2 => by simp only [A.inI, A.maxI] at *; omega)) ?_
        refine Al_p Pu_mvr ?_
        refine Al_nil ?_
        exact ⟨(i + 1, j + 1, c.set i l[j]), ⟨by rw [List.length_set, hcl], by omega, by omega, S.del_keep hj hct hpj (by omega), by rw [List.drop_set_of_lt (by omega), ← List.drop_drop, hcd, List.drop_drop], by omega⟩, by simp only []; omega, Le.ov ⟨Sub.num (by omega), Sub.num (by omega), trivial⟩ ⟨Sub.rfl, Sub.rfl, trivial⟩ ⟨obeq (by rw [List.map_set]), trivial⟩ trivial⟩ -- loop 0 next.0
      · skip
        have hpj : p l[j] = true := by simpa using h29
        refine Aw_skip (Aw_region ?_)
        refine Al_p Pu_mvl ?_
        refine Al_p (Pu_add rfl rfl rfl (fun h1 h2 => by simp only [A.inI, A.maxI] at *; omega)) ?_
        refine Al_p Pu_mvr ?_
        refine Al_nil ?_
        exact ⟨(i, j + 1, c), ⟨hcl, by omega, by omega, S.del_drop hj hct hpj, by rw [← List.drop_drop, hcd, List.drop_drop], by omega⟩, by simp only []; omega, Le.ov ⟨Sub.rfl, Sub.num (by omega), trivial⟩ ⟨Sub.rfl, Sub.rfl, trivial⟩ ⟨rfl, trivial⟩ trivial⟩ -- loop 0 next.1
    · (try simp only [decide_eq_true_eq, decide_eq_false_iff_not, Bool.and_eq_true, Bool.or_eq_true, Bool.and_eq_false_iff, Bool.or_eq_false_iff, Bool.not_eq_true', Bool.not_eq_false', beq_iff_eq, Bool.not_eq_eq_eq_not, Bool.not_true, Bool.not_false, List.length_map, Bool.and_true, Bool.and_false, Bool.false_and, Bool.true_and, Bool.or_false, Bool.false_or] at h19)
      obtain rfl : j = l.length := by omega
      rw [List.take_length] at hct
      have hfl : ∀ zz, ((c.map Dep.row).take i ++ List.replicate ((c.map Dep.row).length - i) zz).take i = (l.filter fun x => !p x).map Dep.row := fun zz => by
        rw [← hct, List.map_take, List.take_append_of_le_length (by simp; omega), List.take_take, Nat.min_self]
      refine Aw_exit (Aw_seq (Aw_region ?_))
      refine Al_p Pu_mvl ?_
      refine Al_p Pu_mvl ?_
      refine Al_p (Pu_sliceOw i (c.map Dep.row).length rfl Tryz.underlying32 Tryz.sizeOf59 rfl rfl ⟨_, rfl, rfl⟩ rfl ⟨by rw [List.length_map]; omega, .inl (Nat.le_refl _)⟩) ?_
      refine Al_clear0 rfl rfl rfl (by kernel_rfl) Tryz.underlying32 Tryz.zeroValue59 rfl (by decide) rfl (by decide) rfl rfl rfl ?_
      refine Al_nil (Aw_seq (Aw_region ?_))
      refine Al_p Pu_mvl ?_
      refine Al_p Pu_mvl ?_
      refine Al_cut i rfl rfl rfl (by decide) (by kernel_rfl) Tryz.underlying32 Tryz.sizeOf59 rfl rfl rfl ⟨_, rfl, rfl⟩ (by simp; omega) (fun g41 => ?_)
      refine Al_p Pu_mvr ?_
      refine Al_nil ?_
      refine Aw_ret ?_
      exact ⟨_, _, [(1002, 1001, g41)], rfl, Sub.rfl, ⟨obeq (hfl _), trivial⟩, rfl⟩ -- ret 1
namespace J
def only (p : List Dep) (own : List Rng) : List Dep := p.filter fun d => !decide (findR own d.key < 0)
def lacks (hv : List Dep) (d : Dep) : Bool := D.lessB (D.get hv d.key).1 (D.get hv d.key).2 d.n d.s
/-- What a version hangs on and is not there. -/
def misses (v : Ver) (hv : List Dep) (own : List Rng) : List Dep := (only v.past own).filter (lacks hv)
def ready (hv : List Dep) (own : List Rng) (v : Ver) : Bool := decide (((misses v hv own).length : Int) = 0)
/-- The place of the first one that need not wait. -/
def nextI (l : List Ver) (hv : List Dep) (own : List Rng) : Nat := l.findIdx (ready hv own)
def dropW (l : List Ver) (own : List Rng) : List Ver := l.filter fun v => !decide (findR own v.key < 0)
/-- The stamp that a site gives. -/
def nextS (n : Int) : Int := max n 0 + 1
end J
theorem ponly1_a (own : List Rng) (d : Dep) (hl : own.length ≤ 1000000) : ACall Tryz.prog 139 [.row d.row, .fp [rngA own]] (bv (decide (findR own d.key < 0))) := by
  refine ACall_enter (fun _ _ => by kernel_rfl) Tryz.func139 rfl Tryz.ntmps139 Tryz.results139 (Nat.le_of_ble_eq_true rfl) (fun hok M0 w0 hnl => ?_)
  refine Aw_seq (Aw_region ?_)
  refine Al_p (Pu_boxN rfl rfl) ?_
  refine Al_p Pu_mvr ?_
  refine Al_nil (Aw_seq (Aw_region ?_))
  refine Al_p (Pu_load1 rfl Tryz.isAgg26 rfl rfl) ?_
  refine Al_p (Pu_field 0 rfl Tryz.underlying59 rfl rfl Tryz.sizeOf9 rfl) ?_
  refine Al_p (Pu_load1 rfl Tryz.isAgg9 rfl rfl) ?_
  refine Al_p (Pu_call (find_a own d.key hl) rfl ⟨Sub.rfl, Sub.rfl, trivial⟩) ?_
  refine Al_p (Pu_cmp rfl rfl rfl rfl) ?_
  refine Al_p Pu_mvr ?_
  refine Al_nil ?_
  refine Aw_ret ?_
  exact Sub.rfl -- ret 0
theorem ponly_g (p : List Dep) (own : List Rng) (hl : own.length ≤ 1000000) (hp : p.length ≤ 1000000) : GCall Tryz.prog 124 [.d (.sl 3 (p.map Dep.row)), .d (rngA own)] [] (some ([(1001, .arr 59 3 ((J.only p own).map Dep.row))], .ow 1001 0)) := by
  refine GCall_enter (fun _ _ => by kernel_rfl) Tryz.func124 rfl Tryz.ntmps124 (ReadsS.r1 Tryz.results124) (Nat.le_of_ble_eq_true rfl) (fun hok hokB M0 w0 => ?_)
  have hdel := delfuncD_g p 139 [.fp [rngA own]] (fun d => decide (findR own d.key < 0)) (fun d => ponly1_a own d hl) hp
  refine Aw_seq (Aw_region ?_)
  refine Al_p (Pu_box1 rfl rfl (by nofun) (by nofun)) ?_
  refine Al_p Pu_mvr ?_
  refine Al_nil (Aw_seq (Aw_region ?_))
  refine Al_p Pu_mvl ?_
  refine Al_gcall [] [(1001, 6)] (cloneD_g p hp) rfl rfl rfl (by decide) (by kernel_rfl) trivial rfl ⟨Sub.rfl, trivial⟩ (fun g6 => ?_)
  refine Al_p (Pu_makeFunc (caps := [_]) rfl ⟨Sub.rfl, trivial⟩) ?_
  refine Al_gcall [(1001, 6, g6)] [(1002, 8)] (hdel) rfl rfl rfl (by decide) (by kernel_rfl) ⟨rfl, trivial⟩ rfl ⟨Sub.rfl, Sub.rfl, trivial⟩ (fun g8 => ?_)
  refine Al_p Pu_mvr ?_
  refine Al_nil ?_
  refine Aw_ret ?_
  exact ⟨_, _, [(1001, 8, g8)], rfl, Sub.rfl, ⟨rfl, trivial⟩, rfl⟩ -- ret 0
theorem qmisses1_a (hv : List Dep) (d : Dep) (hs : D.Srt hv) (hl : hv.length ≤ 1000000) : ACall Tryz.prog 125 [.row d.row, .fp [.sl 3 (hv.map Dep.row)]] (bv (!J.lacks hv d)) := by
  refine ACall_enter (fun _ _ => by kernel_rfl) Tryz.func125 rfl Tryz.ntmps125 Tryz.results125 (Nat.le_of_ble_eq_true rfl) (fun hok M0 w0 hnl => ?_)
  refine Aw_seq (Aw_region ?_)
  refine Al_p (Pu_boxN rfl rfl) ?_
  refine Al_p Pu_mvr ?_
  refine Al_nil (Aw_seq ?_)
  refine Aw_draw 8 (by kernel_rfl) (by kernel_rfl) ?_
  refine Dr_p (Pu_load1 rfl Tryz.isAgg32 rfl rfl) ?_
  refine Dr_p (Pu_field 0 rfl Tryz.underlying59 rfl rfl Tryz.sizeOf9 rfl) ?_
  refine Dr_p (Pu_load1 rfl Tryz.isAgg9 rfl rfl) ?_
  refine Dr_p (Pu_call (pget_a hv d.key hs hl) rfl ⟨Sub.rfl, Sub.rfl, trivial⟩) ?_
  refine Dr_p (Pu_field 1 rfl Tryz.underlying59 rfl rfl Tryz.sizeOf31 rfl) ?_
  refine Dr_p (Pu_loadN rfl Tryz.isAgg31 Tryz.sizeOf31 rfl (Nat.le_of_ble_eq_true rfl)) ?_
  refine Dr_p (Pu_call (less_a _ _ _ _) rfl ⟨Sub.rfl, Sub.rfl, trivial⟩) ?_
  refine Dr_p (Pu_not rfl rfl) ?_
  refine Dr_nil ?_
  refine Al_p Pu_mvr ?_
  refine Al_nil ?_
  refine Aw_ret ?_
  exact Sub.rfl -- ret 0
theorem qmisses_g (v : Ver) (hv : List Dep) (own : List Rng) (hl : own.length ≤ 1000000) (hp : v.past.length ≤ 1000000) (hs : D.Srt hv) (hh : hv.length ≤ 1000000) : GCall Tryz.prog 110 [.d (.row v.row), .d (.sl 3 (hv.map Dep.row)), .d (rngA own)] [] (some ([(1001, .arr 59 3 ((J.misses v hv own).map Dep.row))], .ow 1001 0)) := by
  refine GCall_enter (fun _ _ => by kernel_rfl) Tryz.func110 rfl Tryz.ntmps110 (ReadsS.r1 Tryz.results110) (Nat.le_of_ble_eq_true rfl) (fun hok hokB M0 w0 => ?_)
  have hol : (J.only v.past own).length ≤ 1000000 := Nat.le_trans (List.length_filter_le ..) hp
  have hdel := delfuncD_g (J.only v.past own) 125 [.fp [.sl 3 (hv.map Dep.row)]] (fun d => !J.lacks hv d) (fun d => qmisses1_a hv d hs hh) hol
  refine Aw_seq (Aw_region ?_)
  refine Al_p (Pu_boxN rfl rfl) ?_
  refine Al_p (Pu_box1 rfl rfl (by nofun) (by nofun)) ?_
  refine Al_p Pu_mvr ?_
  refine Al_nil (Aw_seq (Aw_region ?_))
  refine Al_p (Pu_field 5 rfl Tryz.underlying34 rfl rfl Tryz.sizeOf32 rfl) ?_
  refine Al_p (Pu_load1 rfl Tryz.isAgg32 rfl rfl) ?_
  refine Al_p Pu_mvl ?_
  refine Al_gcall [] [(1001, 10)] (ponly_g v.past own hl hp) rfl rfl rfl (by decide) (by kernel_rfl) trivial rfl ⟨Sub.rfl, Sub.rfl, trivial⟩ (fun g10 => ?_)
  refine Al_p (Pu_makeFunc (caps := [_]) rfl ⟨Sub.rfl, trivial⟩) ?_
  refine Al_gcall [(1001, 10, g10)] [(1002, 12)] (hdel) rfl rfl rfl (by decide) (by kernel_rfl) ⟨rfl, trivial⟩ rfl ⟨Sub.rfl, Sub.rfl, trivial⟩ (fun g12 => ?_)
  refine Al_p Pu_mvr ?_
  refine Al_nil ?_
  refine Aw_ret ?_
  exact ⟨_, _, [(1001, 12, g12)], rfl, Sub.rfl, ⟨obeq (by unfold J.misses; simp only [Bool.not_not]), trivial⟩, rfl⟩ -- ret 0
theorem qcheck_a (v : Ver) (hv : List Dep) (own : List Rng) (hl : own.length ≤ 1000000) (hp : v.past.length ≤ 1000000) (hs : D.Srt hv) (hh : hv.length ≤ 1000000) : ACall Tryz.prog 86 [.row v.row, .sl 3 (hv.map Dep.row), rngA own] (bv (J.ready hv own v)) := by
  refine ACall_enter (fun _ _ => by kernel_rfl) Tryz.func86 rfl Tryz.ntmps86 Tryz.results86 (Nat.le_of_ble_eq_true rfl) (fun hok M0 w0 hnl => ?_)
  refine Aw_seq (Aw_region ?_)
  refine Al_p (Pu_boxN rfl rfl) ?_
  refine Al_p Pu_mvr ?_
  refine Al_nil (Aw_seq (Aw_region ?_))
  refine Al_p (Pu_loadN rfl Tryz.isAgg34 Tryz.sizeOf34 rfl (Nat.le_of_ble_eq_true rfl)) ?_
  refine Al_p Pu_mvl ?_
  refine Al_p Pu_mvl ?_
  refine Al_gcall [] [(1001, 10)] (qmisses_g v hv own hl hp hs hh) rfl rfl rfl (by decide) (by kernel_rfl) trivial rfl ⟨Sub.rfl, Sub.rfl, Sub.rfl, trivial⟩ (fun g10 => ?_)
  refine Al_p (Pu_lenOw rfl Tryz.underlying32 rfl rfl (List.length_map ..)) ?_
  refine Al_p (Pu_cmp rfl rfl rfl rfl) ?_
  refine Al_p Pu_mvr ?_
  refine Al_nil ?_
  refine Aw_ret ?_
  exact Sub.rfl -- ret 0
theorem qdrop1_a (own : List Rng) (v : Ver) (hl : own.length ≤ 1000000) : ACall Tryz.prog 98 [.row v.row, .fp [rngA own]] (bv (decide (findR own v.key < 0))) := by
  refine ACall_enter (fun _ _ => by kernel_rfl) Tryz.func98 rfl Tryz.ntmps98 Tryz.results98 (Nat.le_of_ble_eq_true rfl) (fun hok M0 w0 hnl => ?_)
  refine Aw_seq (Aw_region ?_)
  refine Al_p (Pu_boxN rfl rfl) ?_
  refine Al_p Pu_mvr ?_
  refine Al_nil (Aw_seq (Aw_region ?_))
  refine Al_p (Pu_load1 rfl Tryz.isAgg26 rfl rfl) ?_
  refine Al_p (Pu_field 0 rfl Tryz.underlying34 rfl rfl Tryz.sizeOf9 rfl) ?_
  refine Al_p (Pu_load1 rfl Tryz.isAgg9 rfl rfl) ?_
  refine Al_p (Pu_call (find_a own v.key hl) rfl ⟨Sub.rfl, Sub.rfl, trivial⟩) ?_
  refine Al_p (Pu_cmp rfl rfl rfl rfl) ?_
  refine Al_p Pu_mvr ?_
  refine Al_nil ?_
  refine Aw_ret ?_
  exact Sub.rfl -- ret 0
theorem qdrop_a (l : List Ver) (own : List Rng) (hl : own.length ≤ 1000000) (hp : l.length ≤ 1000000) : ACall Tryz.prog 66 [versA l, rngA own] (versA (J.dropW l own)) := by
  refine ACall_enter (fun _ _ => by kernel_rfl) Tryz.func66 rfl Tryz.ntmps66 Tryz.results66 (Nat.le_of_ble_eq_true rfl) (fun hok M0 w0 hnl => ?_)
  have hdel := delfuncV_g l 98 [.fp [rngA own]] (fun v => decide (findR own v.key < 0)) (fun v => qdrop1_a own v hl) hp
  refine Aw_seq (Aw_region ?_)
  refine Al_p (Pu_box1 rfl rfl (by nofun) (by nofun)) ?_
  refine Al_p Pu_mvr ?_
  refine Al_nil (Aw_seq (Aw_region ?_))
  refine Al_p Pu_mvl ?_
  refine Al_gcall [] [(1001, 6)] (cloneV_g l hp) rfl rfl rfl (by decide) (by kernel_rfl) trivial rfl ⟨Sub.rfl, trivial⟩ (fun g6 => ?_)
  refine Al_p (Pu_makeFunc (caps := [_]) rfl ⟨Sub.rfl, trivial⟩) ?_
  refine Al_gcall [(1001, 6, g6)] [(1002, 8)] (hdel) rfl rfl rfl (by decide) (by kernel_rfl) ⟨rfl, trivial⟩ rfl ⟨Sub.rfl, Sub.rfl, trivial⟩ (fun g8 => ?_)
  refine Al_p Pu_mvr ?_
  refine Al_nil ?_
  refine Aw_frz hnl (k := 8) [4] rfl ⟨rfl, trivial⟩ ?_
  refine Aw_ret ?_
  exact Sub.rfl -- ret 0
/-- What Push answers: the row, or that it may not. -/
def J.pushE (l : List Ver) (v : Ver) : Int := if J.checkB v then (if (24 : Int) ≤ l.length then 15 else 0) else 1
theorem snext_a (n s k : Int) (hn : n < 1099511627776) (hn0 : 0 ≤ n) (hk : 0 ≤ k ∧ k < 6) : ACall Tryz.prog 54 [.row [iv n, iv s], iv k] (.tup [.row [iv (n + 1), iv k], iv 0]) := by
  refine ACall_enterG (fun _ _ => by kernel_rfl) Tryz.func54 rfl Tryz.ntmps54 (Reads.cN1 Tryz.results54 Tryz.isAgg31 Tryz.sizeOf31) (Nat.le_of_ble_eq_true rfl) (fun hok M0 w0 hnl => ?_)
  refine Aw_seq (Aw_region ?_)
  refine Al_p (Pu_boxN rfl rfl) ?_
  refine Al_alloc rfl rfl rfl (by decide) Tryz.zeroValue31 rfl (by kernel_rfl) (fun g4 => ?_)
  refine Al_p Pu_mvr ?_
  refine Al_nil (Aw_seq (Aw_block (Aw_seq (Aw_region ?_))))
  refine Al_p Pu_mvl ?_
  refine Al_p (Pu_cmp rfl rfl rfl rfl) ?_
  refine Al_p Pu_mvl ?_
  refine Al_st (St_gd [] rfl rfl rfl rfl trivial (fun hg10 => by exact Pu_move (.inl rfl) (by conv => lhs; whnf))) rfl (by decide) (by kernel_rfl) (by intro j b oj dj h1 h2 h3; cases h1; cases h2; cases h3; decide) ?_
  refine Al_st (St_gd [10] rfl rfl rfl rfl ⟨⟨_, rfl⟩, trivial⟩ (fun hg11 => Pu_cmp rfl rfl rfl rfl)) rfl (by decide) (by kernel_rfl) (by intro j b oj dj h1 h2 h3; cases h1; cases h2; cases h3; decide) ?_
  refine Al_p (Pu_or rfl rfl rfl rfl) ?_
  refine Al_p Pu_mvr ?_
  refine Al_nil ?_
  refine Aw_cond rfl (fun h6 => ?_) (fun h6 => ?_)
  · (try simp only [decide_eq_true_eq, decide_eq_false_iff_not, Bool.and_eq_true, Bool.or_eq_true, Bool.and_eq_false_iff, Bool.or_eq_false_iff, Bool.not_eq_true', Bool.not_eq_false', beq_iff_eq, Bool.not_eq_eq_eq_not, Bool.not_true, Bool.not_false, List.length_map, Bool.and_true, Bool.and_false, Bool.false_and, Bool.true_and, Bool.or_false, Bool.false_or] at h6)
    exfalso
    omega
  · (try simp only [decide_eq_true_eq, decide_eq_false_iff_not, Bool.and_eq_true, Bool.or_eq_true, Bool.and_eq_false_iff, Bool.or_eq_false_iff, Bool.not_eq_true', Bool.not_eq_false', beq_iff_eq, Bool.not_eq_eq_eq_not, Bool.not_true, Bool.not_false, List.length_map, Bool.and_true, Bool.and_false, Bool.false_and, Bool.true_and, Bool.or_false, Bool.false_or] at h6)
    refine Aw_seq (Aw_region ?_)
    refine Al_p (Pu_field 0 rfl Tryz.underlying31 rfl rfl Tryz.sizeOf3 rfl) ?_
    refine Al_p (Pu_load1 rfl Tryz.isAgg3 rfl rfl) ?_
    refine Al_p (Pu_cmp rfl rfl rfl rfl) ?_
    refine Al_p Pu_mvr ?_
    refine Al_nil ?_
    refine Aw_cond rfl (fun h14 => ?_) (fun h14 => ?_)
    · (try simp only [decide_eq_true_eq, decide_eq_false_iff_not, Bool.and_eq_true, Bool.or_eq_true, Bool.and_eq_false_iff, Bool.or_eq_false_iff, Bool.not_eq_true', Bool.not_eq_false', beq_iff_eq, Bool.not_eq_eq_eq_not, Bool.not_true, Bool.not_false, List.length_map, Bool.and_true, Bool.and_false, Bool.false_and, Bool.true_and, Bool.or_false, Bool.false_or] at h14)
      exfalso
      omega
    · (try simp only [decide_eq_true_eq, decide_eq_false_iff_not, Bool.and_eq_true, Bool.or_eq_true, Bool.and_eq_false_iff, Bool.or_eq_false_iff, Bool.not_eq_true', Bool.not_eq_false', beq_iff_eq, Bool.not_eq_eq_eq_not, Bool.not_true, Bool.not_false, List.length_map, Bool.and_true, Bool.and_false, Bool.false_and, Bool.true_and, Bool.or_false, Bool.false_or] at h14)
      refine Aw_skip (Aw_seq (Aw_region ?_))
      refine Al_p (Pu_field 0 rfl Tryz.underlying31 rfl rfl Tryz.sizeOf3 rfl) ?_
      refine Al_p (Pu_load1 rfl Tryz.isAgg3 rfl rfl) ?_
      refine Al_p (Pu_max2 (c := n) rfl rfl rfl (by rw [if_neg (by omega)])) ?_
      refine Al_p (Pu_add rfl rfl rfl (fun h1 h2 => by simp only [A.inI, A.maxI] at *; omega)) ?_
      refine Al_p Pu_mvl ?_
      refine Al_p (Pu_build (aa := [(0, _), (1, _)]) rfl Tryz.underlying31 Tryz.zeroValue31 (places31 Tryz.underlying31) (by kernel_rfl) ⟨rfl, rfl, rfl, rfl, rfl, rfl, trivial⟩ rfl) ?_
      refine Al_storeN rfl rfl rfl (by kernel_rfl) Tryz.isAgg31 Tryz.sizeOf31 rfl rfl rfl rfl (Nat.le_of_ble_eq_true rfl) ?_
      refine Al_p Pu_mvr ?_
      refine Al_nil ?_
      refine Aw_ret ?_
      exact ⟨_, _, _, _, _, [_, _], _, rfl, rfl, rfl, rfl, Sub.rfl, rfl⟩ -- ret 0
theorem qpush_a (l : List Ver) (v : Ver) (hp : l.length ≤ 1000000) : ACall Tryz.prog 47 [versA l, .row v.row] (.tup [versA (if J.pushE l v = 0 then l ++ [v] else []), iv (J.pushE l v)]) := by
  refine ACall_enter2 (fun _ _ => by kernel_rfl) Tryz.func47 rfl Tryz.ntmps47 Tryz.results47 (Nat.le_of_ble_eq_true rfl) (fun hok M0 w0 hnl => ?_)
  refine Aw_seq (Aw_region ?_)
  refine Al_p (Pu_boxN rfl rfl) ?_
  refine Al_p Pu_mvr ?_
  refine Al_p Pu_mvr ?_
  refine Al_nil (Aw_seq (Aw_block (Aw_seq (Aw_region ?_))))
  refine Al_p (Pu_loadN rfl Tryz.isAgg34 Tryz.sizeOf34 rfl (Nat.le_of_ble_eq_true rfl)) ?_
  refine Al_p (Pu_call (wcheck_a v) rfl ⟨Sub.rfl, trivial⟩) ?_
  refine Al_p (Pu_not rfl rfl) ?_
  refine Al_p Pu_mvr ?_
  refine Al_nil ?_
  refine Aw_cond rfl (fun h6 => ?_) (fun h6 => ?_)
  · (try simp only [decide_eq_true_eq, decide_eq_false_iff_not, Bool.and_eq_true, Bool.or_eq_true, Bool.and_eq_false_iff, Bool.or_eq_false_iff, Bool.not_eq_true', Bool.not_eq_false', beq_iff_eq, Bool.not_eq_eq_eq_not, Bool.not_true, Bool.not_false, List.length_map, Bool.and_true, Bool.and_false, Bool.false_and, Bool.true_and, Bool.or_false, Bool.false_or] at h6)
    have he : J.pushE l v = 1 := by
      unfold J.pushE
      rw [if_neg (by rw [Bool.not_eq_true]; simpa using h6)]
    refine Aw_seq (Aw_region ?_)
    refine Al_p Pu_mvr ?_
    refine Al_p Pu_mvr ?_
    refine Al_nil ?_
    refine Aw_ret ?_
    rw [he]; exact ⟨Sub.nil, Sub.rfl⟩ -- ret 0
  · (try simp only [decide_eq_true_eq, decide_eq_false_iff_not, Bool.and_eq_true, Bool.or_eq_true, Bool.and_eq_false_iff, Bool.or_eq_false_iff, Bool.not_eq_true', Bool.not_eq_false', beq_iff_eq, Bool.not_eq_eq_eq_not, Bool.not_true, Bool.not_false, List.length_map, Bool.and_true, Bool.and_false, Bool.false_and, Bool.true_and, Bool.or_false, Bool.false_or] at h6)
    refine Aw_seq (Aw_region ?_)
    refine Al_p Pu_mvl ?_
    refine Al_p (Pu_len rfl Tryz.underlying65 rfl (by first | exact List.length_map .. | exact rfl)) ?_
    refine Al_p (Pu_cmp rfl rfl rfl rfl) ?_
    refine Al_p Pu_mvr ?_
    refine Al_nil ?_
    refine Aw_cond rfl (fun h10 => ?_) (fun h10 => ?_)
    · (try simp only [decide_eq_true_eq, decide_eq_false_iff_not, Bool.and_eq_true, Bool.or_eq_true, Bool.and_eq_false_iff, Bool.or_eq_false_iff, Bool.not_eq_true', Bool.not_eq_false', beq_iff_eq, Bool.not_eq_eq_eq_not, Bool.not_true, Bool.not_false, List.length_map, Bool.and_true, Bool.and_false, Bool.false_and, Bool.true_and, Bool.or_false, Bool.false_or] at h10)
      have he : J.pushE l v = 15 := by
        unfold J.pushE
        rw [if_pos (by simpa using h6), if_pos (by simpa using h10)]
      refine Aw_seq (Aw_region ?_)
      refine Al_p Pu_mvr ?_
      refine Al_p Pu_mvr ?_
      refine Al_nil ?_
      refine Aw_ret ?_
      rw [he]; exact ⟨Sub.nil, Sub.rfl⟩ -- ret 1
    · (try simp only [decide_eq_true_eq, decide_eq_false_iff_not, Bool.and_eq_true, Bool.or_eq_true, Bool.and_eq_false_iff, Bool.or_eq_false_iff, Bool.not_eq_true', Bool.not_eq_false', beq_iff_eq, Bool.not_eq_eq_eq_not, Bool.not_true, Bool.not_false, List.length_map, Bool.and_true, Bool.and_false, Bool.false_and, Bool.true_and, Bool.or_false, Bool.false_or] at h10)
      have he : J.pushE l v = 0 := by
        unfold J.pushE
        rw [if_pos (by simpa using h6), if_neg (by simpa using h10)]
      refine Aw_skip (Aw_seq ?_)
      refine Aw_draw 8 (by kernel_rfl) (by kernel_rfl) ?_
      refine Dr_p Pu_mvl ?_
      refine Dr_p Pu_mvl ?_
      refine Dr_p (Pu_len rfl Tryz.underlying65 rfl (by first | exact List.length_map .. | exact rfl)) ?_
      refine Dr_p Pu_mvl ?_
      refine Dr_p (Pu_len rfl Tryz.underlying65 rfl (by first | exact List.length_map .. | exact rfl)) ?_
      refine Dr_p (Pu_sub3 l.length rfl Tryz.underlying65 Tryz.sizeOf34 rfl ⟨_, rfl, rfl⟩ ⟨_, rfl, rfl⟩ (by rw [List.length_map]; exact Nat.le_refl _)) ?_
      refine Dr_p (Pu_loadN rfl Tryz.isAgg34 Tryz.sizeOf34 rfl (Nat.le_of_ble_eq_true rfl)) ?_
      refine Dr_p (Pu_slice1 rfl Tryz.underlying65 Tryz.sizeOf34 Tryz.zeroValue34 rfl (by decide) (by decide) (by kernel_rfl) rfl rfl rfl) ?_
      refine Dr_nil ?_
      refine Al_p (Pu_appendC rfl elem65 (by decide) Tryz.sizeOf34 rfl rfl (by simp; omega) (by decide)) ?_
      refine Al_p Pu_mvr ?_
      refine Al_p Pu_mvr ?_
      refine Al_nil ?_
      refine Aw_ret ?_
      exact ⟨Sub.d (by rw [he, if_pos rfl]; show AV.sl 6 _ = AV.sl 6 ((l ++ [v]).map Ver.row); rw [List.map_append, List.take_of_length_le (by rw [List.length_map]; exact Nat.le_refl _)]; rfl), Sub.num he.symm⟩ -- ret 2
namespace J
theorem next_at {l : List Ver} {hv : List Dep} {own : List Rng} {k : Nat} (hk : k < l.length) (hr : ready hv own (l.getD k default) = true) (hno : ∀ j, j < k → ready hv own (l.getD j default) = false) : nextI l hv own = k ∧ l[nextI l hv own]? = some (l.getD k default) ∧ l.eraseIdx (nextI l hv own) = l.take k ++ l.drop (k + 1) := by
  have h1 : nextI l hv own = k := by
    unfold nextI
    rw [List.findIdx_eq hk]
    refine ⟨by rw [List.getD_eq_getElem?_getD, List.getElem?_eq_getElem hk] at hr; exact hr, fun j hj => ?_⟩
    have := hno j hj
    rw [List.getD_eq_getElem?_getD, List.getElem?_eq_getElem (by omega)] at this
    exact this
  refine ⟨h1, by rw [h1, List.getD_eq_getElem?_getD, List.getElem?_eq_getElem hk]; rfl, by rw [h1, List.eraseIdx_eq_take_drop_succ]⟩
theorem next_no {l : List Ver} {hv : List Dep} {own : List Rng} (hno : ∀ j, j < l.length → ready hv own (l.getD j default) = false) : l[nextI l hv own]? = none ∧ l.eraseIdx (nextI l hv own) = l := by
  have h1 : nextI l hv own = l.length := by
    unfold nextI
    rw [List.findIdx_eq_length]
    intro x hx
    obtain ⟨j, hj, rfl⟩ := List.getElem_of_mem hx
    have := hno j hj
    rw [List.getD_eq_getElem?_getD, List.getElem?_eq_getElem hj] at this
    exact this
  exact ⟨by rw [h1]; simp, by rw [h1, List.eraseIdx_of_length_le (Nat.le_refl _)]⟩
/-- The one that need not wait, whether there is one, and the others. -/
def nextV (l : List Ver) (hv : List Dep) (own : List Rng) : Option Ver := l[nextI l hv own]?
def nextL (l : List Ver) (hv : List Dep) (own : List Rng) : List Ver := l.eraseIdx (nextI l hv own)
end J
abbrev nextA (l : List Ver) (hv : List Dep) (own : List Rng) : AV := .tup [.row ((J.nextV l hv own).getD default).row, versA (J.nextL l hv own), bv (J.nextV l hv own).isSome]
set_option maxRecDepth 100000 in
theorem qnext_a (l : List Ver) (hv : List Dep) (own : List Rng) (hl : own.length ≤ 1000000) (hp : ∀ v ∈ l, v.past.length ≤ 1000000) (hs : D.Srt hv) (hh : hv.length ≤ 1000000) (hll : l.length ≤ 1000000) : ACall Tryz.prog 50 [versA l, .sl 3 (hv.map Dep.row), rngA own] (nextA l hv own) := by
  refine ACall_enterG (fun _ _ => by kernel_rfl) Tryz.func50 rfl Tryz.ntmps50 (Reads.cN2 Tryz.results50 Tryz.isAgg34 Tryz.sizeOf34) (Nat.le_of_ble_eq_true rfl) (fun hok M0 w0 hnl => ?_)
  refine Aw_seq (Aw_region ?_)
  refine Al_alloc rfl rfl rfl (by decide) Tryz.zeroValue34 rfl (by kernel_rfl) (fun g6 => ?_)
  refine Al_p Pu_mvr ?_
  refine Al_p Pu_mvr ?_
  refine Al_nil (Aw_scope (Aw_seq (Aw_label (Aw_seq (Aw_seq (Aw_region ?_))))))
  refine Al_p Pu_mvl ?_
  refine Al_p (Pu_len rfl Tryz.underlying65 rfl (by first | exact List.length_map .. | exact rfl)) ?_
  refine Al_p Pu_mvl ?_
  refine Al_nil (Aw_block ?_)
  refine Aw_loopk (ι := Nat) [0, 1, 2, 6, 11, 12] [6] (fun k => [(13, .d (iv k))]) (fun k => []) (fun k => k ≤ l.length ∧ ∀ j, j < k → J.ready hv own (l.getD j default) = false) (fun k => l.length - k) (0) (⟨Nat.zero_le _, fun j hj => absurd hj (Nat.not_lt_zero _)⟩) ⟨Sub.rfl, trivial⟩ trivial ?_
  rintro k ⟨hk0, hno⟩
  refine Aw_seq (Aw_region ?_)
  refine Al_p (Pu_cmp rfl rfl rfl rfl) ?_
  refine Al_nil (Aw_seq ?_)
  refine Aw_cond rfl (fun h14 => ?_) (fun h14 => ?_)
  · (try simp only [decide_eq_true_eq, decide_eq_false_iff_not, Bool.and_eq_true, Bool.or_eq_true, Bool.and_eq_false_iff, Bool.or_eq_false_iff, Bool.not_eq_true', Bool.not_eq_false', beq_iff_eq, Bool.not_eq_eq_eq_not, Bool.not_true, Bool.not_false, List.length_map, Bool.and_true, Bool.and_false, Bool.false_and, Bool.true_and, Bool.or_false, Bool.false_or] at h14)
    have hk : k < l.length := by omega
    have hmem : l.getD k default ∈ l := by rw [List.getD_eq_getElem?_getD, List.getElem?_eq_getElem hk]; exact List.getElem_mem hk
    refine Aw_skip (Aw_seq (Aw_block (Aw_seq (Aw_region ?_))))
    refine Al_p Pu_mvl ?_
    refine Al_p (Pu_index rfl Tryz.underlying65 Tryz.sizeOf34 rfl rfl (rfl) (mapgetD (d := default) hk)) ?_
    refine Al_p (Pu_loadN rfl Tryz.isAgg34 Tryz.sizeOf34 rfl (Nat.le_of_ble_eq_true rfl)) ?_
    refine Al_alloc rfl rfl rfl (by decide) Tryz.zeroValue34 rfl (by kernel_rfl) (fun g10 => ?_)
    refine Al_p Pu_mvr ?_
    refine Al_storeN rfl rfl rfl (by kernel_rfl) Tryz.isAgg34 Tryz.sizeOf34 rfl rfl rfl rfl (Nat.le_of_ble_eq_true rfl) ?_
    refine Al_nil (Aw_seq (Aw_seq (Aw_region ?_)))
    refine Al_p (Pu_loadbN (r := [_, _, _, _, _, _]) rfl Tryz.isAgg34 Tryz.sizeOf34 rfl rfl rfl rfl) ?_
    refine Al_p Pu_mvl ?_
    refine Al_p Pu_mvl ?_
    refine Al_p (Pu_call (qcheck_a (l.getD k default) hv own hl (hp _ hmem) hs hh) rfl ⟨Sub.rfl, Sub.rfl, Sub.rfl, trivial⟩) ?_
    refine Al_p (Pu_not rfl rfl) ?_
    refine Al_nil ?_
    refine Aw_cond rfl (fun h22 => ?_) (fun h22 => ?_)
    · (try simp only [decide_eq_true_eq, decide_eq_false_iff_not, Bool.and_eq_true, Bool.or_eq_true, Bool.and_eq_false_iff, Bool.or_eq_false_iff, Bool.not_eq_true', Bool.not_eq_false', beq_iff_eq, Bool.not_eq_eq_eq_not, Bool.not_true, Bool.not_false, List.length_map, Bool.and_true, Bool.and_false, Bool.false_and, Bool.true_and, Bool.or_false, Bool.false_or] at h22)
      refine Aw_exit (Aw_region ?_)
      refine Al_p (Pu_add rfl rfl rfl (fun h1 h2 => by simp only [A.inI, A.maxI] at *; omega)) ?_
      refine Al_p Pu_mvl ?_
      refine Al_nil ?_
      exact ⟨k + 1, ⟨by omega, fun j hj => by
        rcases Nat.lt_succ_iff_lt_or_eq.1 hj with h | rfl
        · exact hno j h
        · exact h22⟩, by omega, Le.ov ⟨Sub.num (by omega), trivial⟩ ⟨Sub.rfl, Sub.rfl, Sub.rfl, Sub.rfl, Sub.rfl, Sub.rfl, trivial⟩ trivial ⟨rfl, trivial⟩⟩ -- loop 0 next.0
    · (try simp only [decide_eq_true_eq, decide_eq_false_iff_not, Bool.and_eq_true, Bool.or_eq_true, Bool.and_eq_false_iff, Bool.or_eq_false_iff, Bool.not_eq_true', Bool.not_eq_false', beq_iff_eq, Bool.not_eq_eq_eq_not, Bool.not_true, Bool.not_false, List.length_map, Bool.and_true, Bool.and_false, Bool.false_and, Bool.true_and, Bool.or_false, Bool.false_or] at h22)
      obtain ⟨e1, e2, e3⟩ := J.next_at hk h22 hno
      refine Aw_skip (Aw_seq ?_)
      refine Aw_draw 10 (by kernel_rfl) (by kernel_rfl) ?_
      refine Dr_p (Pu_loadbN (r := [_, _, _, _, _, _]) rfl Tryz.isAgg34 Tryz.sizeOf34 rfl rfl rfl rfl) ?_
      refine Dr_p Pu_mvl ?_
      refine Dr_p Pu_mvl ?_
      refine Dr_p Pu_mvl ?_
      refine Dr_p (Pu_sub3 k rfl Tryz.underlying65 Tryz.sizeOf34 rfl ⟨_, rfl, rfl⟩ ⟨_, rfl, rfl⟩ (by rw [List.length_map]; omega)) ?_
      refine Dr_p Pu_mvl ?_
      refine Dr_p Pu_mvl ?_
      refine Dr_p (Pu_add rfl rfl rfl (fun h1 h2 => by simp only [A.inI, A.maxI] at *; omega)) ?_
      refine Dr_p (Pu_subL (k + 1) (l.length) rfl Tryz.underlying65 Tryz.sizeOf34 rfl ⟨_, rfl, rfl⟩ ((List.length_map ..).symm) ⟨by first | omega | (rw [List.length_map]; omega), by first | omega | (rw [List.length_map]; omega)⟩) ?_
      refine Dr_p (Pu_appendC rfl elem65 (by decide) Tryz.sizeOf34 rfl rfl (by simp; omega) (by decide)) ?_
      refine Dr_nil ?_
      refine Al_storeN rfl rfl rfl (by kernel_rfl) Tryz.isAgg34 Tryz.sizeOf34 rfl rfl rfl rfl (Nat.le_of_ble_eq_true rfl) ?_
      refine Al_p Pu_mvr ?_
      refine Al_p Pu_mvr ?_
      refine Al_nil ?_
      refine Aw_ret ?_
      exact ⟨_, _, _, _, _, [_, _, _, _, _, _], versA (l.take k ++ l.drop (k + 1)), _, rfl, rfl, rfl, rfl, Sub.d (by
        have h1 : (l.map Ver.row).take l.length = l.map Ver.row := List.take_of_length_le (by simp)
        show AV.sl 6 _ = AV.sl 6 _
        rw [List.map_append, List.map_take, List.map_drop, h1]), Sub.rfl, by unfold nextA J.nextV J.nextL; rw [e2, e3]; rfl⟩ -- ret 0
  · (try simp only [decide_eq_true_eq, decide_eq_false_iff_not, Bool.and_eq_true, Bool.or_eq_true, Bool.and_eq_false_iff, Bool.or_eq_false_iff, Bool.not_eq_true', Bool.not_eq_false', beq_iff_eq, Bool.not_eq_eq_eq_not, Bool.not_true, Bool.not_false, List.length_map, Bool.and_true, Bool.and_false, Bool.false_and, Bool.true_and, Bool.or_false, Bool.false_or] at h14)
    obtain ⟨e2, e3⟩ := J.next_no (l := l) (hv := hv) (own := own) fun j hj => hno j (by omega)
    refine Aw_exit (Aw_seq (Aw_region ?_))
    refine Al_p (Pu_build (aa := []) rfl Tryz.underlying34 Tryz.zeroValue34 (places34 Tryz.underlying34) (by kernel_rfl) trivial rfl) ?_
    refine Al_p Pu_mvl ?_
    refine Al_storeN rfl rfl rfl (by kernel_rfl) Tryz.isAgg34 Tryz.sizeOf34 rfl rfl rfl rfl (Nat.le_of_ble_eq_true rfl) ?_
    refine Al_p Pu_mvr ?_
    refine Al_p Pu_mvr ?_
    refine Al_nil ?_
    refine Aw_boxle (k := 6) ((default : Ver).row.map .d) rfl ⟨Sub.rfl, Sub.rfl, Sub.rfl, Sub.rfl, Sub.rfl, Sub.nil, trivial⟩ ?_
    refine Aw_ret ?_
    exact ⟨_, _, _, _, _, [_, _, _, _, _, _], versA l, _, rfl, rfl, rfl, rfl, Sub.rfl, Sub.rfl, by unfold nextA J.nextV J.nextL; rw [e2, e3]; rfl⟩ -- ret 1
end Go.Proofs.YtmbaeloiepjakaaGreat
