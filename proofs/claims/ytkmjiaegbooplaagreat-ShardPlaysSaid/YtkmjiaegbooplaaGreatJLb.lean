
/- Law 13: its example; ShardPut. -/
import Derived.Test.YtkmjiaegbooplaaGreatJLa
set_option linter.unusedSimpArgs false
set_option linter.unusedVariables false
set_option maxRecDepth 100000
namespace Go.Proofs.YtkmjiaegbooplaaGreat
open Go.RowKit A R
open A.RowT
namespace J
theorem Sm.mono {m m' : Nat} {cs : SC} (h : Sm m cs) (hm : m ≤ m') : Sm m' cs := ⟨Nat.le_trans h.1 hm, fun p hp => ⟨Nat.le_trans (h.2 p hp).1 hm, (h.2 p hp).2⟩⟩
theorem sm_nil (m : Nat) : Sm m [] := ⟨Nat.zero_le _, fun p hp => by cases hp⟩
theorem rise_nil : RiseC [] := .nil
def exR : List Rng := [⟨⟨#[]⟩, ⟨#[109]⟩⟩]
def exA : Ver := ⟨⟨#[97]⟩, ⟨#[]⟩, false, 1, 0, []⟩
def exZ : Ver := ⟨⟨#[122]⟩, ⟨#[]⟩, false, 1, 0, []⟩
theorem ex1 : (sput exR [] exA).2 = true := by decide +kernel
theorem ex2 : (sput exR (sput exR [] exA).1 exZ).2 = false := by decide +kernel
theorem ex3 : ((keysC (sput exR (sput exR [] exA).1 exZ).1).length : Int) = 1 := by decide +kernel
end J
set_option maxRecDepth 100000 in
set_option maxHeartbeats 1000000 in
theorem hawake_a : ACall Tryz.prog 4 [] (bv true) := by
  refine ACall_enter (fun _ _ => by kernel_rfl) Tryz.func4 rfl Tryz.ntmps4 Tryz.results4 (Nat.le_of_ble_eq_true rfl) (fun hok M0 w0 hnl => ?_)
  have s1 := J.sput_sm (rs := J.exR) (J.sm_nil 0) J.exA
  have r1 := J.sput_rise (rs := J.exR) J.rise_nil J.exA
  have s2 := J.sput_sm (rs := J.exR) s1 J.exZ
  have r2 := J.sput_rise (rs := J.exR) r1 J.exZ
  refine Aw_seq ?_
  refine Aw_region ?_
  refine Al_pu (Pu_move (.inr rfl) (by conv => lhs; whnf)) rfl rfl (by decide) (by kernel_rfl) ?_
  refine Al_nil ?_
  refine Aw_seq ?_
  refine Aw_region ?_
  refine Al_pu (Pu_build (aa := [(1, _)]) rfl Tryz.underlying63 Tryz.zeroValue63 (places63 Tryz.underlying63) (by kernel_rfl) ⟨rfl, rfl, rfl, trivial⟩ rfl) rfl rfl (by decide) (by kernel_rfl) ?_
  refine Al_pu (Pu_slice1 rfl Tryz.underlying26 Tryz.sizeOf63 Tryz.zeroValue63 rfl (by decide) (by decide) (by kernel_rfl) rfl rfl rfl) rfl rfl (by decide) (by kernel_rfl) ?_
  refine Al_gcallE [] [(1001, 4), (1002, 40)] (snew_g J.exR (by decide)) rfl rfl rfl (by decide) (by kernel_rfl) trivial (fun _ => rfl) rfl rfl ⟨Sub.rfl, trivial⟩ ?_
  rintro b g4
  refine Al_pu (Pu_move (.inr rfl) (by conv => lhs; whnf)) rfl rfl (by decide) (by kernel_rfl) ?_
  refine Al_nil ?_
  refine Aw_seq ?_
  refine Aw_seq ?_
  refine Aw_region ?_
  refine Al_pu (Pu_move (.inl rfl) (by conv => lhs; whnf)) rfl rfl (by decide) (by kernel_rfl) ?_
  refine Al_pu (Pu_eqnilb Tryz.underlying24 rfl rfl) rfl rfl (by decide) (by kernel_rfl) ?_
  refine Al_nil ?_
  refine Aw_condF rfl (rfl) ?_
  refine Aw_skip ?_
  refine Aw_seq ?_
  refine Aw_region ?_
  refine Al_pu (Pu_move (.inl rfl) (by conv => lhs; whnf)) rfl rfl (by decide) (by kernel_rfl) ?_
  refine Al_pu (Pu_call (hver_a _ _ _) rfl ⟨Sub.rfl, Sub.rfl, Sub.rfl, trivial⟩) rfl rfl (by decide) (by kernel_rfl) ?_
  refine Al_gcall [(1001, 4, g4), (1002, 40, g4)] [] (sput_g J.exR [] b J.exA (by decide) J.rise_nil (J.sm_nil 1000)) rfl rfl rfl (by decide) (by kernel_rfl) ⟨rfl, rfl, trivial⟩ rfl ⟨Sub.rfl, Sub.rfl, trivial⟩ (fun g9 => ?_)
  refine Al_pu (Pu_move (.inl rfl) (by conv => lhs; whnf)) rfl rfl (by decide) (by kernel_rfl) ?_
  refine Al_gdT rfl rfl rfl rfl (J.ex1) (by decide) ?_
  refine Al_pu (Pu_move (.inl rfl) (by conv => lhs; whnf)) rfl rfl (by decide) (by kernel_rfl) ?_
  refine Al_gdT rfl rfl rfl rfl (J.ex1) (by decide) ?_
  refine Al_pu (Pu_call (hver_a _ _ _) rfl ⟨Sub.rfl, Sub.rfl, Sub.rfl, trivial⟩) rfl rfl (by decide) (by kernel_rfl) ?_
  refine Al_gdT rfl rfl rfl rfl (J.ex1) (by decide) ?_
  refine Al_gcall [(1001, 4, g4), (1002, 40, g4)] [] (sput_g J.exR (J.sput J.exR [] J.exA).1 b J.exZ (by decide) r1 (s1.mono (by decide))) rfl rfl rfl (by decide) (by kernel_rfl) ⟨rfl, rfl, trivial⟩ rfl ⟨Sub.rfl, Sub.rfl, trivial⟩ (fun g13 => ?_)
  refine Al_gdT rfl rfl rfl rfl (J.ex1) (by decide) ?_
  refine Al_pu (Pu_not rfl rfl) rfl rfl (by decide) (by kernel_rfl) ?_
  refine Al_pu (Pu_and2 rfl rfl rfl rfl) rfl rfl (by decide) (by kernel_rfl) ?_
  refine Al_pu (Pu_move (.inl rfl) (by conv => lhs; whnf)) rfl rfl (by decide) (by kernel_rfl) ?_
  refine Al_gdT rfl rfl rfl rfl (by rw [J.ex1, J.ex2]; rfl) (by decide) ?_
  refine Al_pu (Pu_move (.inl rfl) (by conv => lhs; whnf)) rfl rfl (by decide) (by kernel_rfl) ?_
  refine Al_gdT rfl rfl rfl rfl (by rw [J.ex1, J.ex2]; rfl) (by decide) ?_
  refine Al_gcall [(1001, 4, g4), (1002, 40, g4)] [] (skeys_g J.exR (J.sput J.exR (J.sput J.exR [] J.exA).1 J.exZ).1 b r2 (s2.mono (by decide))) rfl rfl rfl (by decide) (by kernel_rfl) ⟨rfl, rfl, trivial⟩ rfl ⟨Sub.rfl, trivial⟩ (fun g18 => ?_)
  refine Al_gdT rfl rfl rfl rfl (by rw [J.ex1, J.ex2]; rfl) (by decide) ?_
  refine Al_pu (Pu_len rfl Tryz.underlying57 rfl (by first | exact List.length_map .. | exact rfl)) rfl rfl (by decide) (by kernel_rfl) ?_
  refine Al_gdT rfl rfl rfl rfl (by rw [J.ex1, J.ex2]; rfl) (by decide) ?_
  refine Al_pu (Pu_cmp rfl rfl rfl rfl) rfl rfl (by decide) (by kernel_rfl) ?_
  refine Al_pu (Pu_and2 rfl rfl rfl rfl) rfl rfl (by decide) (by kernel_rfl) ?_
  refine Al_pu (Pu_move (.inr rfl) (by conv => lhs; whnf)) rfl rfl (by decide) (by kernel_rfl) ?_
  refine Al_nil ?_
  refine Aw_ret ?_
  exact Sub.bool (by rw [J.ex1, J.ex2]; simp [J.ex3]) -- ret 0
set_option maxRecDepth 100000 in
theorem rsame12_a (l m : List Ver) : ACall Tryz.prog 20 [versA l, versA m] (bv (decide (l = m))) := by
  refine ACall_enter (fun _ _ => by kernel_rfl) Tryz.func20 rfl Tryz.ntmps20 Tryz.results20 (Nat.le_of_ble_eq_true rfl) (fun hok M0 w0 hnl => ?_)
  have hlen := (hok _ (List.mem_cons_self ..)).len
  rw [List.length_map] at hlen
  refine Aw_seq ?_
  refine Aw_region ?_
  refine Al_pu (Pu_move (.inr rfl) (by conv => lhs; whnf)) rfl rfl (by decide) (by kernel_rfl) ?_
  refine Al_nil ?_
  refine Aw_seq ?_
  refine Aw_seq ?_
  refine Aw_region ?_
  refine Al_pu (Pu_move (.inl rfl) (by conv => lhs; whnf)) rfl rfl (by decide) (by kernel_rfl) ?_
  refine Al_pu (Pu_len rfl Tryz.underlying47 rfl (by first | exact List.length_map .. | exact rfl)) rfl rfl (by decide) (by kernel_rfl) ?_
  refine Al_pu (Pu_move (.inl rfl) (by conv => lhs; whnf)) rfl rfl (by decide) (by kernel_rfl) ?_
  refine Al_pu (Pu_len rfl Tryz.underlying47 rfl (by first | exact List.length_map .. | exact rfl)) rfl rfl (by decide) (by kernel_rfl) ?_
  refine Al_pu (Pu_cmp rfl rfl rfl rfl) rfl rfl (by decide) (by kernel_rfl) ?_
  refine Al_nil ?_
  refine Aw_cond rfl (fun h11 => ?_) (fun h11 => ?_)
  · (try simp only [decide_eq_true_eq, decide_eq_false_iff_not, Bool.and_eq_true, Bool.or_eq_true, Bool.and_eq_false_iff, Bool.or_eq_false_iff, Bool.not_eq_true', Bool.not_eq_false', beq_iff_eq, Bool.not_eq_eq_eq_not, Bool.not_true, Bool.not_false, List.length_map, Bool.and_true, Bool.and_false, Bool.false_and, Bool.true_and, Bool.or_false, Bool.false_or] at h11)
    refine Aw_seq ?_
    refine Aw_region ?_
    refine Al_pu (Pu_move (.inr rfl) (by conv => lhs; whnf)) rfl rfl (by decide) (by kernel_rfl) ?_
    refine Al_nil ?_
    refine Aw_ret ?_
    exact Sub.bool (by rw [L.same_len (by omega)]) -- ret 0
  · (try simp only [decide_eq_true_eq, decide_eq_false_iff_not, Bool.and_eq_true, Bool.or_eq_true, Bool.and_eq_false_iff, Bool.or_eq_false_iff, Bool.not_eq_true', Bool.not_eq_false', beq_iff_eq, Bool.not_eq_eq_eq_not, Bool.not_true, Bool.not_false, List.length_map, Bool.and_true, Bool.and_false, Bool.false_and, Bool.true_and, Bool.or_false, Bool.false_or] at h11)
    refine Aw_skip ?_
    refine Aw_seq ?_
    refine Aw_seq ?_
    refine Aw_region ?_
    refine Al_pu (Pu_move (.inr rfl) (by conv => lhs; whnf)) rfl rfl (by decide) (by kernel_rfl) ?_
    refine Al_nil ?_
    refine Aw_block ?_
    refine Aw_loopk (ι := Nat) [0, 1] [] (fun k => [(5, .d (iv k))]) (fun k => []) (fun k => k ≤ l.length ∧ l.take k = m.take k) (fun k => l.length - k) (0) (⟨Nat.zero_le _, rfl⟩) ⟨Sub.rfl, trivial⟩ trivial ?_
    rintro k ⟨hk0, he⟩
    refine Aw_seq ?_
    refine Aw_seq ?_
    refine Aw_region ?_
    refine Al_pu (Pu_move (.inl rfl) (by conv => lhs; whnf)) rfl rfl (by decide) (by kernel_rfl) ?_
    refine Al_pu (Pu_move (.inl rfl) (by conv => lhs; whnf)) rfl rfl (by decide) (by kernel_rfl) ?_
    refine Al_pu (Pu_len rfl Tryz.underlying47 rfl (by first | exact List.length_map .. | exact rfl)) rfl rfl (by decide) (by kernel_rfl) ?_
    refine Al_pu (Pu_cmp rfl rfl rfl rfl) rfl rfl (by decide) (by kernel_rfl) ?_
    refine Al_nil ?_
    refine Aw_cond rfl (fun h15 => ?_) (fun h15 => ?_)
    · (try simp only [decide_eq_true_eq, decide_eq_false_iff_not, Bool.and_eq_true, Bool.or_eq_true, Bool.and_eq_false_iff, Bool.or_eq_false_iff, Bool.not_eq_true', Bool.not_eq_false', beq_iff_eq, Bool.not_eq_eq_eq_not, Bool.not_true, Bool.not_false, List.length_map, Bool.and_true, Bool.and_false, Bool.false_and, Bool.true_and, Bool.or_false, Bool.false_or] at h15)
      have hkl : k < l.length := by omega
      have hkm : k < m.length := by omega
      refine Aw_skip ?_
      refine Aw_seq ?_
      refine Aw_block ?_
      refine Aw_seq ?_
      refine Aw_draw 9 (by kernel_rfl) (by kernel_rfl) ?_
      refine Dr_pu (Pu_move (.inl rfl) (by conv => lhs; whnf)) rfl rfl ?_
      refine Dr_pu (Pu_move (.inl rfl) (by conv => lhs; whnf)) rfl rfl ?_
      refine Dr_pu (Pu_index rfl Tryz.underlying47 Tryz.sizeOf36 rfl rfl (rfl) (mapget hkl)) rfl rfl ?_
      refine Dr_pu (Pu_loadN rfl Tryz.isAgg36 Tryz.sizeOf36 rfl (Nat.le_of_ble_eq_true rfl)) rfl rfl ?_
      refine Dr_pu (Pu_move (.inl rfl) (by conv => lhs; whnf)) rfl rfl ?_
      refine Dr_pu (Pu_move (.inl rfl) (by conv => lhs; whnf)) rfl rfl ?_
      refine Dr_pu (Pu_index rfl Tryz.underlying47 Tryz.sizeOf36 rfl rfl (rfl) (mapget hkm)) rfl rfl ?_
      refine Dr_pu (Pu_loadN rfl Tryz.isAgg36 Tryz.sizeOf36 rfl (Nat.le_of_ble_eq_true rfl)) rfl rfl ?_
      refine Dr_pu (Pu_call (rvsame_a (l[k]'hkl) (m[k]'hkm)) rfl ⟨Sub.rfl, Sub.rfl, trivial⟩) rfl rfl ?_
      refine Dr_nil ?_
      refine Al_pu (Pu_move (.inr rfl) (by conv => lhs; whnf)) rfl rfl (by decide) (by kernel_rfl) ?_
      refine Al_nil ?_
      refine Aw_seq ?_
      refine Aw_region ?_
      refine Al_pu (Pu_move (.inl rfl) (by conv => lhs; whnf)) rfl rfl (by decide) (by kernel_rfl) ?_
      refine Al_pu (Pu_not rfl rfl) rfl rfl (by decide) (by kernel_rfl) ?_
      refine Al_nil ?_
      refine Aw_cond rfl (fun h28 => ?_) (fun h28 => ?_)
      · (try simp only [decide_eq_true_eq, decide_eq_false_iff_not, Bool.and_eq_true, Bool.or_eq_true, Bool.and_eq_false_iff, Bool.or_eq_false_iff, Bool.not_eq_true', Bool.not_eq_false', beq_iff_eq, Bool.not_eq_eq_eq_not, Bool.not_true, Bool.not_false, List.length_map, Bool.and_true, Bool.and_false, Bool.false_and, Bool.true_and, Bool.or_false, Bool.false_or] at h28)
        have hne : l[k] ≠ m[k] := by simpa using h28
        refine Aw_seq ?_
        refine Aw_region ?_
        refine Al_pu (Pu_move (.inr rfl) (by conv => lhs; whnf)) rfl rfl (by decide) (by kernel_rfl) ?_
        refine Al_nil ?_
        refine Aw_ret ?_
        exact Sub.bool (by rw [L.same_ne hkl hkm hne]) -- ret 1
      · (try simp only [decide_eq_true_eq, decide_eq_false_iff_not, Bool.and_eq_true, Bool.or_eq_true, Bool.and_eq_false_iff, Bool.or_eq_false_iff, Bool.not_eq_true', Bool.not_eq_false', beq_iff_eq, Bool.not_eq_eq_eq_not, Bool.not_true, Bool.not_false, List.length_map, Bool.and_true, Bool.and_false, Bool.false_and, Bool.true_and, Bool.or_false, Bool.false_or] at h28)
        have heq : l[k] = m[k] := by simpa using h28
        refine Aw_skip ?_
        refine Aw_region ?_
        refine Al_pu (Pu_move (.inl rfl) (by conv => lhs; whnf)) rfl rfl (by decide) (by kernel_rfl) ?_
        refine Al_pu (Pu_add rfl rfl rfl (fun h1 h2 => by simp only [A.inI, A.maxI] at *; omega)) rfl rfl (by decide) (by kernel_rfl) ?_
        refine Al_pu (Pu_move (.inr rfl) (by conv => lhs; whnf)) rfl rfl (by decide) (by kernel_rfl) ?_
        refine Al_nil ?_
        exact ⟨k + 1, ⟨by omega, L.same_step he hkl hkm heq⟩, by omega, Le.ov ⟨Sub.num (by omega), trivial⟩ ⟨Sub.rfl, Sub.rfl, trivial⟩ trivial trivial⟩ -- loop 0 next.0
    · (try simp only [decide_eq_true_eq, decide_eq_false_iff_not, Bool.and_eq_true, Bool.or_eq_true, Bool.and_eq_false_iff, Bool.or_eq_false_iff, Bool.not_eq_true', Bool.not_eq_false', beq_iff_eq, Bool.not_eq_eq_eq_not, Bool.not_true, Bool.not_false, List.length_map, Bool.and_true, Bool.and_false, Bool.false_and, Bool.true_and, Bool.or_false, Bool.false_or] at h15)
      obtain rfl := L.same_end he (by omega) (by omega)
      refine Aw_exit ?_
      refine Aw_seq ?_
      refine Aw_region ?_
      refine Al_pu (Pu_move (.inr rfl) (by conv => lhs; whnf)) rfl rfl (by decide) (by kernel_rfl) ?_
      refine Al_nil ?_
      refine Aw_ret ?_
      exact Sub.bool (by simp) -- ret 2
namespace J
theorem findR_all (key : ByteArray) : ¬ findR (ranges 0) key < 0 := by
  have h : ranges 0 = [⟨⟨#[]⟩, ⟨#[]⟩⟩] := by unfold ranges; rw [if_pos (by decide +kernel)]
  have h2 : ∀ x : List UInt8, Op.bytesLess x [] = false := fun x => by cases x <;> rfl
  rw [h]
  unfold findR idxF
  simp [K.hasB, h2]
/-- What a shard of all keys has, when versions were put. -/
def runV (l : List Ver) : SC := l.foldl (fun cs v => (sput (ranges 0) cs v).1) []
def runK (l : List HOp) (k : Nat) : SC := runV ((l.take k).map ver)
theorem runV_snoc (l : List Ver) (v : Ver) : runV (l ++ [v]) = (sput (ranges 0) (runV l) v).1 := by unfold runV; rw [List.foldl_append]; rfl
theorem runK_succ (l : List HOp) {k : Nat} (hk : k < l.length) : runK l (k + 1) = (sput (ranges 0) (runK l k) (ver (l.getD k default))).1 := by
  have hg : l.getD k default = l[k] := by simp [hk]
  unfold runK
  rw [List.take_succ_eq_append_getElem hk, List.map_append, hg]
  exact runV_snoc _ _
theorem puts_ok (rs : List Rng) : ∀ (l : List Ver) (m : Nat) (cs : SC), RiseC cs → Sm m cs → RiseC (l.foldl (fun cs v => (sput rs cs v).1) cs) ∧ Sm (m + l.length) (l.foldl (fun cs v => (sput rs cs v).1) cs)
  | [], m, cs, h1, h2 => ⟨h1, h2⟩
  | v :: l, m, cs, h1, h2 => by
    have := puts_ok rs l (m + 1) (sput rs cs v).1 (sput_rise h1 v) (sput_sm h2 v)
    rw [List.foldl_cons, List.length_cons, show m + (l.length + 1) = m + 1 + l.length from by omega]
    exact this
theorem runV_ok (l : List Ver) : RiseC (runV l) ∧ Sm l.length (runV l) := by
  have := puts_ok (ranges 0) l 0 [] rise_nil (sm_nil 0)
  rw [Nat.zero_add] at this
  exact this
theorem runK_ok (l : List HOp) (k : Nat) : RiseC (runK l k) ∧ Sm k (runK l k) := by
  have h := runV_ok ((l.take k).map ver)
  refine ⟨h.1, h.2.mono ?_⟩
  simp; omega
theorem frm_put (l : List Ver) (v : Ver) : frm (l.take (frm l v.n v.s) ++ v :: l.drop (frm l v.n v.s)) v.n v.s = frm l v.n v.s := by
  have hle := frm_le l v.n v.s
  have hv : notB v.n v.s v = true := by unfold notB; rw [D.less_irrefl]; rfl
  have hno : ∀ x ∈ l.take (frm l v.n v.s), notB v.n v.s x = false := fun x hx => by
    obtain ⟨j, hj, rfl⟩ := List.getElem_of_mem hx
    rw [List.length_take] at hj
    rw [List.getElem_take]
    have := List.not_of_lt_findIdx (p := notB v.n v.s) (xs := l) (i := j) (by unfold frm at hj; omega)
    simpa using this
  have hfr : ∀ m : List Ver, frm m v.n v.s = m.findIdx (notB v.n v.s) := fun _ => rfl
  rw [hfr (l.take _ ++ _), List.findIdx_append, if_neg]
  · rw [List.findIdx_cons, hv]
    simp; omega
  · rw [Nat.not_lt]
    apply Nat.le_of_eq
    symm
    rw [List.findIdx_eq_length]
    exact hno
theorem put_at {l m : List Ver} {v : Ver} (h : put l v = some m) : atc l v.n v.s = none ∧ atc m v.n v.s = some v ∧ put m v = none := by
  unfold put at h
  split at h
  · rename_i hc
    cases h
    have hf := frm_put l v
    have hle := frm_le l v.n v.s
    have hg : (l.take (frm l v.n v.s) ++ v :: l.drop (frm l v.n v.s))[frm l v.n v.s]? = some v := by
      rw [List.getElem?_append_right (by simp; omega)]
      simp [Nat.min_eq_left hle]
    have hs : isSt v.n v.s v = true := by unfold isSt; simp
    refine ⟨?_, ?_, ?_⟩
    · unfold atc
      cases hx : l[frm l v.n v.s]? with
      | none => rfl
      | some x => rw [Option.filter_some, if_neg (by rw [hc.2.2 x hx]; decide)]
    · unfold atc
      rw [hf, hg, Option.filter_some, if_pos hs]
    · unfold put
      rw [if_neg]
      rintro ⟨_, _, h3⟩
      have := h3 v (by rw [hf]; exact hg)
      rw [hs] at this; cases this
  · cases h
theorem getC_set {cs : SC} (h : RiseC cs) (k : ByteArray) (l : List Ver) (c : ByteArray) : getC (setC cs k l) c = if c = k then l else getC cs c := by
  unfold getC
  rw [look_set cs k l c h]
  split <;> rfl
theorem sput_some {rs : List Rng} {cs : SC} {v : Ver} (h : (sput rs cs v).2 = true) : ∃ l, ¬ findR rs v.key < 0 ∧ put (getC cs v.key) v = some l ∧ sput rs cs v = (setC cs v.key l, true) := by
  by_cases hf : findR rs v.key < 0
  · unfold sput at h; rw [if_pos hf] at h; cases h
  · cases hl : put (getC cs v.key) v with
    | none => unfold sput at h; rw [if_neg hf, hl] at h; cases h
    | some l => exact ⟨l, hf, rfl, by unfold sput; rw [if_neg hf, hl]⟩
theorem sput_yes {rs : List Rng} {cs : SC} {v : Ver} (hr : RiseC cs) (h : (sput rs cs v).2 = true) : sat cs v.key v.n v.s = none ∧ sat (sput rs cs v).1 v.key v.n v.s = some v ∧ (sput rs (sput rs cs v).1 v).2 = false := by
  obtain ⟨l, hf, hl, he⟩ := sput_some h
  obtain ⟨h1, h2, h3⟩ := put_at hl
  have hg : getC (setC cs v.key l) v.key = l := by rw [getC_set hr, if_pos rfl]
  rw [he]
  refine ⟨h1, ?_, ?_⟩
  · unfold sat; rw [hg]; exact h2
  · unfold sput
    rw [if_neg hf, hg, h3]
theorem sput_no {rs : List Rng} {cs : SC} {v : Ver} (h : (sput rs cs v).2 = false) : (sput rs cs v).1 = cs := by
  unfold sput at h ⊢
  split
  · rfl
  · rename_i hf
    rw [if_neg hf] at h
    split
    · rename_i l hl
      rw [hl] at h; cases h
    · rfl
theorem sput_other {rs : List Rng} {cs : SC} {v : Ver} (hr : RiseC cs) {c : ByteArray} (h : c ≠ v.key) : getC (sput rs cs v).1 c = getC cs c := by
  unfold sput
  split
  · rfl
  · split
    · rw [getC_set hr, if_neg h]
    · rfl
theorem put_law (rs : List Rng) {cs : SC} (hr : RiseC cs) (v : Ver) (key : ByteArray) (e1 e2 : Bool) (h1 : e1 = decide (v = (sat (sput rs cs v).1 v.key v.n v.s).getD default)) (h2 : key ≠ v.key → e2 = false) (h3 : key = v.key → e2 = true) :
    (((!((sput rs cs v).2 && (sat cs v.key v.n v.s).isSome)) && (!(sput rs cs v).2 || ((sat (sput rs cs v).1 v.key v.n v.s).isSome && e1))) && ((e2 && (sput rs cs v).2) || decide (getC cs key = getC (sput rs cs v).1 key)) && !(sput rs (sput rs cs v).1 v).2) = true := by
  cases hb : (sput rs cs v).2 with
  | true =>
    obtain ⟨g1, g2, g3⟩ := sput_yes hr hb
    rw [h1, g1, g2, g3]
    by_cases hk : key = v.key
    · rw [h3 hk]; simp
    · rw [h2 hk, sput_other hr hk]; simp
  | false =>
    have g1 := sput_no hb
    rw [g1, hb]; simp
end J
end Go.Proofs.YtkmjiaegbooplaaGreat
