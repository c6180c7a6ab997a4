/- keys.Bounds, archipelagoref02.Bounds, over abstract states. -/
import Derived.Test.YtfalbocgnmlncaaSSh
import Derived.Test.YtfalbocgnmlncaaKSort
import Derived.Test.YtfalbocgnmlncaaAX
set_option linter.unusedSimpArgs false
set_option linter.unusedVariables false
namespace Go.Proofs.Ytfalbocgnmlncaa
open Go.RowKit A R
open A.RowT
theorem A.rep_sown {B : Nat} {M : Nat → Prop} {w : World} {v : Value} {ss : List ByteArray} (h : SOwn B w v ss) (hl : ss.length ≤ A.maxI) (hM : ∀ b, B ≤ b → ¬ M b) : Rep M w (.sl 1 (ss.map fun s => [tv s])) v := by
  rcases h with ⟨rfl, rfl⟩ | ⟨g, cap, tail, rfl, hB, hg, hc, hm, hs⟩
  · exact .nil _ _ _
  · have hcell : ∀ i, (hi : i < ss.length) → w.cell? ⟨g, 0 + i * 1 + 0, none⟩ = some (.string ss[i]) := fun i hi => by
      simp only [World.cell?, hg]
      simp only [List.getElem?_toArray]
      rw [show 0 + i * 1 + 0 = i from by omega, List.getElem?_append_left (by rw [List.length_map]; exact hi), List.getElem?_map, List.getElem?_eq_getElem hi]; rfl
    have := Rep.sl (M := M) (w := w) 1 (ss.map fun s => [tv s]) g 0 cap (fun i _ => .string (ss.getD i ⟨#[]⟩)) (by rw [List.length_map]; exact hl) (by rw [List.length_map]; omega) (fun i r hr => by
      rw [List.getElem?_map] at hr
      obtain ⟨x, _, rfl⟩ := Option.map_eq_some_iff.1 hr
      rfl) (fun i r j a hr ha => by
      rw [List.getElem?_map] at hr
      obtain ⟨x, hx, rfl⟩ := Option.map_eq_some_iff.1 hr
      obtain ⟨hi, rfl⟩ := List.getElem?_eq_some_iff.1 hx
      match j, ha with
      | 0, ha =>
        refine ⟨hM g hB, ?_, rfl⟩
        rw [hcell i hi]
        simp [List.getD_eq_getElem?_getD, hi]
      | j + 1, ha => simp at ha) (fun i r j a hr ha => by
      rw [List.getElem?_map] at hr
      obtain ⟨x, hx, rfl⟩ := Option.map_eq_some_iff.1 hr
      obtain ⟨hi, rfl⟩ := List.getElem?_eq_some_iff.1 hx
      match j, ha with
      | 0, ha =>
        simp only [List.getElem?_cons_zero, Option.some.injEq] at ha
        subst ha
        have e : ss.getD i ⟨#[]⟩ = ss[i] := by simp [List.getD_eq_getElem?_getD, hi]
        rw [e]
        exact .v _ (hs _ (List.getElem_mem hi))
      | j + 1, ha => simp at ha)
    rw [List.length_map] at this
    exact this
theorem compF_len (l : List ByteArray) : (compF l).length ≤ l.length := by
  unfold compF
  rw [List.length_map]
  exact Nat.le_trans (compact_le _).1 (by rw [List.length_map]; exact Nat.le_refl _)
theorem sortF_len (l : List ByteArray) : (sortF l).length = l.length := by simp [sortF]
theorem boundsF_len (l : List Rng) : (boundsF l).length ≤ 2 * l.length := by
  unfold boundsF
  have h1 := compF_len (sortF (left (fun s => s.toList.isEmpty) (flatF l)))
  rw [sortF_len] at h1
  have h2 := List.length_filter_le (fun s : ByteArray => !s.toList.isEmpty) (flatF l)
  have h3 := bflat_len l
  exact Nat.le_trans h1 (Nat.le_trans h2 (by omega))
theorem A.nil_empty (s : ByteArray) : s.toList.isEmpty = (s.toList == (⟨#[]⟩ : ByteArray).toList) := by
  have : (⟨#[]⟩ : ByteArray).toList = [] := by rw [Lib.toList_data]
  rw [this]
  cases s.toList <;> rfl
theorem bounds_a (l : List Rng) (hl : l.length ≤ 100) : ACall Try.prog 32 [.sl 2 (l.map Rng.row)] (.sl 1 ((boundsF l).map fun s => [tv s])) := ⟨fun _ _ => by kernel_rfl, fun M w vs hM ha => by
  obtain ⟨x, xs, rfl, h1, h2⟩ := allc ha
  obtain rfl := all0 h2
  refine (bounds_own x l hl _ w (sl_of (α := Rng) h1)).mono ?_
  rintro e w' ⟨v', rfl, hx, hS⟩
  refine ⟨v', rfl, hx, A.rep_sown hS ?_ (fun b hb hm => ?_)⟩
  · have := boundsF_len l
    simp only [A.maxI]; omega
  · have := hM b hm; omega⟩
set_option maxRecDepth 100000 in
set_option maxHeartbeats 2000000 in
theorem radd_a (l : List ByteArray) (s : ByteArray) (hl : l.length ≤ 1000) : ACall Try.prog 51 [.sl 1 (l.map fun s => [tv s]), tv s] (.sl 1 ((addF l s).map fun s => [tv s])) := by
  refine ACall_enter (fun _ _ => by kernel_rfl) Try.func51 rfl Try.ntmps51 Try.results51 (Nat.le_of_ble_eq_true rfl) (fun hok M0 w0 hnl => ?_)
  refine Aw_seq ?_
  refine Aw_region ?_
  refine Al_pu (Pu_move (.inr rfl) (by conv => lhs; whnf)) rfl rfl (by decide) (by kernel_rfl) ?_
  refine Al_nil ?_
  refine Aw_seq ?_
  refine Aw_seq ?_
  refine Aw_region ?_
  refine Al_pu (Pu_move (.inl rfl) (by conv => lhs; whnf)) rfl rfl (by decide) (by kernel_rfl) ?_
  refine Al_pu (Pu_str rfl rfl rfl rfl) rfl rfl (by decide) (by kernel_rfl) ?_
  refine Al_nil ?_
  refine Aw_cond rfl (fun h9 => ?_) (fun h9 => ?_)
  · skip
    have e : addF l s = l := by unfold addF; rw [A.nil_empty, h9]; rfl
    refine Aw_seq ?_
    refine Aw_region ?_
    refine Al_pu (Pu_move (.inl rfl) (by conv => lhs; whnf)) rfl rfl (by decide) (by kernel_rfl) ?_
    refine Al_pu (Pu_move (.inr rfl) (by conv => lhs; whnf)) rfl rfl (by decide) (by kernel_rfl) ?_
    refine Al_nil ?_
    refine Aw_ret ?_
    exact Sub.d (by rw [e]) -- ret 0
  · skip
    have he : s.toList.isEmpty = false := by rw [A.nil_empty]; exact h9
    refine Aw_skip ?_
    refine Aw_seq ?_
    refine Aw_region ?_
    refine Al_pu (Pu_move (.inr rfl) (by conv => lhs; whnf)) rfl rfl (by decide) (by kernel_rfl) ?_
    refine Al_nil ?_
    refine Aw_seq ?_
    refine Aw_region ?_
    refine Al_pu (Pu_move (.inr rfl) (by conv => lhs; whnf)) rfl rfl (by decide) (by kernel_rfl) ?_
    refine Al_nil ?_
    refine Aw_seq ?_
    refine Aw_seq ?_
    refine Aw_region ?_
    refine Al_pu (Pu_move (.inr rfl) (by conv => lhs; whnf)) rfl rfl (by decide) (by kernel_rfl) ?_
    refine Al_nil ?_
    refine Aw_block ?_
    refine Aw_own (j := 5) (k := 5) (T := 9) (n := 1) rfl (fun g0 => ?_)
    refine Aw_loopk (ι := Nat × Bool × (List ByteArray) × Nat) [0, 1] [] (fun (k, put, out, g) => [(7, .d (iv k)), (6, .d (bv put)), (5, .ow 5 g)]) (fun (k, put, out, g) => [(5, g, .arr 9 1 (out.map fun s => [tv s]))]) (fun (k, put, out, g) => k ≤ l.length ∧ out.length ≤ 2 * k ∧ InsAt l s k put out ∧ Unlike l s k) (fun (k, put, out, g) => l.length - k) ((0, false, [], g0)) (⟨Nat.zero_le _, ⟨by simp, rfl, fun i x hi => by omega⟩⟩) ⟨Sub.rfl, Sub.rfl, Sub.rfl, trivial⟩ ⟨rfl, trivial⟩ ?_
    rintro ⟨k, put, out, g⟩ ⟨hk0, ⟨hol, hat, hun⟩⟩
    refine Aw_seq ?_
    refine Aw_seq ?_
    refine Aw_region ?_
    refine Al_pu (Pu_move (.inl rfl) (by conv => lhs; whnf)) rfl rfl (by decide) (by kernel_rfl) ?_
    refine Al_pu (Pu_move (.inl rfl) (by conv => lhs; whnf)) rfl rfl (by decide) (by kernel_rfl) ?_
    refine Al_pu (Pu_len rfl Try.underlying59 rfl (by first | exact List.length_map .. | exact rfl)) rfl rfl (by decide) (by kernel_rfl) ?_
    refine Al_pu (Pu_cmp rfl rfl rfl rfl) rfl rfl (by decide) (by kernel_rfl) ?_
    refine Al_nil ?_
    refine Aw_cond rfl (fun h14 => ?_) (fun h14 => ?_)
    · (try simp only [decide_eq_true_eq, decide_eq_false_iff_not, Bool.and_eq_true, Bool.or_eq_true, Bool.and_eq_false_iff, Bool.or_eq_false_iff, Bool.not_eq_true', Bool.not_eq_false', beq_iff_eq, Bool.not_eq_eq_eq_not, Bool.not_true, Bool.not_false, List.length_map, Bool.and_true, Bool.and_false, Bool.false_and, Bool.true_and, Bool.or_false, Bool.false_or] at h14)
      have hk : k < l.length := by omega
      have hx : l[k]? = some l[k] := by simp [hk]
      refine Aw_skip ?_
      -- join 0: live [0, 1, 5, 6, 7], turned [5, 6]
      refine Aw_seq ?_
      refine Aw_block ?_
      refine Aw_seq ?_
      refine Aw_seq ?_
      refine Aw_region ?_
      refine Al_pu (Pu_move (.inl rfl) (by conv => lhs; whnf)) rfl rfl (by decide) (by kernel_rfl) ?_
      refine Al_pu (Pu_move (.inl rfl) (by conv => lhs; whnf)) rfl rfl (by decide) (by kernel_rfl) ?_
      refine Al_pu (Pu_index rfl Try.underlying59 Try.sizeOf9 rfl rfl (rfl) (mapget hk)) rfl rfl (by decide) (by kernel_rfl) ?_
      refine Al_pu (Pu_load1 rfl Try.isAgg9 rfl rfl) rfl rfl (by decide) (by kernel_rfl) ?_
      refine Al_pu (Pu_move (.inl rfl) (by conv => lhs; whnf)) rfl rfl (by decide) (by kernel_rfl) ?_
      refine Al_pu (Pu_str rfl rfl rfl rfl) rfl rfl (by decide) (by kernel_rfl) ?_
      refine Al_nil ?_
      refine Aw_cond rfl (fun h22 => ?_) (fun h22 => ?_)
      · skip
        have e := addF_like hk h22
        refine Aw_seq ?_
        refine Aw_region ?_
        refine Al_pu (Pu_move (.inl rfl) (by conv => lhs; whnf)) rfl rfl (by decide) (by kernel_rfl) ?_
        refine Al_pu (Pu_move (.inr rfl) (by conv => lhs; whnf)) rfl rfl (by decide) (by kernel_rfl) ?_
        refine Al_nil ?_
        refine Aw_ret ?_
        exact Sub.d (by rw [e]) -- ret 1
      · skip
        have hu := hun.next hx h22
        refine Aw_skip ?_
        -- join 1: live [0, 1, 5, 6, 7], turned [5, 6]
        refine Aw_seq ?_
        refine Aw_seq ?_
        refine Aw_region ?_
        refine Al_pu (Pu_move (.inl rfl) (by conv => lhs; whnf)) rfl rfl (by decide) (by kernel_rfl) ?_
        refine Al_pu (Pu_not rfl rfl) rfl rfl (by decide) (by kernel_rfl) ?_
        refine Al_pu (Pu_move (.inl rfl) (by conv => lhs; whnf)) rfl rfl (by decide) (by kernel_rfl) ?_
        refine Al_st (St_gd [] rfl rfl rfl rfl trivial (fun hg27 => by exact Pu_move (.inl rfl) (by conv => lhs; whnf))) rfl (by decide) (by kernel_rfl) (by intro j b oj dj h1 h2 h3; cases h1; cases h2; cases h3; decide) ?_
        refine Al_st (St_gd [] rfl rfl rfl rfl trivial (fun hg28 => by exact Pu_move (.inl rfl) (by conv => lhs; whnf))) rfl (by decide) (by kernel_rfl) (by intro j b oj dj h1 h2 h3; cases h1; cases h2; cases h3; decide) ?_
        refine Al_st (St_gd [27, 28] rfl rfl rfl rfl ⟨⟨_, rfl⟩, ⟨_, rfl⟩, trivial⟩ (fun hg29 => Pu_index rfl Try.underlying59 Try.sizeOf9 rfl rfl (rfl) (mapget hk))) rfl (by decide) (by kernel_rfl) (by intro j b oj dj h1 h2 h3; cases h1; cases h2; cases h3; decide) ?_
        refine Al_st (St_gd [29] rfl rfl rfl rfl ⟨⟨_, rfl⟩, trivial⟩ (fun hg30 => Pu_load1 rfl Try.isAgg9 rfl rfl)) rfl (by decide) (by kernel_rfl) (by intro j b oj dj h1 h2 h3; cases h1; cases h2; cases h3; decide) ?_
        refine Al_st (St_gd [] rfl rfl rfl rfl trivial (fun hg31 => by exact Pu_move (.inl rfl) (by conv => lhs; whnf))) rfl (by decide) (by kernel_rfl) (by intro j b oj dj h1 h2 h3; cases h1; cases h2; cases h3; decide) ?_
        refine Al_st (St_gd [30, 31] rfl rfl rfl rfl ⟨⟨_, rfl⟩, ⟨_, rfl⟩, trivial⟩ (fun hg32 => Pu_str rfl rfl rfl rfl)) rfl (by decide) (by kernel_rfl) (by intro j b oj dj h1 h2 h3; cases h1; cases h2; cases h3; decide) ?_
        refine Al_pu (Pu_and rfl rfl rfl rfl) rfl rfl (by decide) (by kernel_rfl) ?_
        refine Al_nil ?_
        refine Aw_cond rfl (fun h33 => ?_) (fun h33 => ?_)
        · skip
          rw [h22, Bool.or_false, Bool.and_eq_true, Bool.not_eq_true', Bool.not_eq_true'] at h33
          obtain ⟨rfl, h33⟩ := h33
          have hlt : Op.bytesLess s.toList l[k].toList = true := by
            cases h3 : Op.bytesLess s.toList l[k].toList with
            | true => rfl
            | false => have := K.bl_tri _ _ h3 h33; rw [this] at h22; simp at h22
          have ha := hat.put hk hlt
          refine Aw_seq ?_
          refine Aw_region ?_
          refine Al_pu (Pu_move (.inl rfl) (by conv => lhs; whnf)) rfl rfl (by decide) (by kernel_rfl) ?_
          refine Al_pu (Pu_move (.inl rfl) (by conv => lhs; whnf)) rfl rfl (by decide) (by kernel_rfl) ?_
          refine Al_pu (Pu_slice1 rfl Try.underlying59 Try.sizeOf9 Try.zeroValue9 rfl (by decide) (by decide) (by kernel_rfl) rfl rfl rfl) rfl rfl (by decide) (by kernel_rfl) ?_
          refine Al_append rfl rfl rfl (by decide) (by kernel_rfl) elem59 (by decide) Try.sizeOf9 rfl rfl rfl (by simp; omega) (by decide) (fun g37 => ?_)
          refine Al_pu (Pu_move (.inr rfl) (by conv => lhs; whnf)) rfl rfl (by decide) (by kernel_rfl) ?_
          refine Al_nil ?_
          refine Aw_region ?_
          refine Al_pu (Pu_move (.inr rfl) (by conv => lhs; whnf)) rfl rfl (by decide) (by kernel_rfl) ?_
          refine Al_nil ?_
          refine Aw_region ?_
          refine Al_pu (Pu_move (.inl rfl) (by conv => lhs; whnf)) rfl rfl (by decide) (by kernel_rfl) ?_
          refine Al_pu (Pu_move (.inl rfl) (by conv => lhs; whnf)) rfl rfl (by decide) (by kernel_rfl) ?_
          refine Al_pu (Pu_move (.inl rfl) (by conv => lhs; whnf)) rfl rfl (by decide) (by kernel_rfl) ?_
          refine Al_pu (Pu_index rfl Try.underlying59 Try.sizeOf9 rfl rfl (rfl) (mapget hk)) rfl rfl (by decide) (by kernel_rfl) ?_
          refine Al_pu (Pu_load1 rfl Try.isAgg9 rfl rfl) rfl rfl (by decide) (by kernel_rfl) ?_
          refine Al_pu (Pu_slice1 rfl Try.underlying59 Try.sizeOf9 Try.zeroValue9 rfl (by decide) (by decide) (by kernel_rfl) rfl rfl rfl) rfl rfl (by decide) (by kernel_rfl) ?_
          refine Al_append rfl rfl rfl (by decide) (by kernel_rfl) elem59 (by decide) Try.sizeOf9 rfl rfl rfl (by simp; omega) (by decide) (fun g44 => ?_)
          refine Al_pu (Pu_move (.inr rfl) (by conv => lhs; whnf)) rfl rfl (by decide) (by kernel_rfl) ?_
          refine Al_nil ?_
          refine Aw_region ?_
          refine Al_pu (Pu_move (.inl rfl) (by conv => lhs; whnf)) rfl rfl (by decide) (by kernel_rfl) ?_
          refine Al_pu (Pu_add rfl rfl rfl (fun h1 h2 => by simp only [A.inI, A.maxI] at *; omega)) rfl rfl (by decide) (by kernel_rfl) ?_
          refine Al_pu (Pu_move (.inr rfl) (by conv => lhs; whnf)) rfl rfl (by decide) (by kernel_rfl) ?_
          refine Al_nil ?_
          exact ⟨(k + 1, true, out ++ [s] ++ [l[k]], g44), ⟨by omega, ⟨by simp; omega, ha, hu⟩⟩, by simp only []; omega, Le.ov ⟨Sub.num (by omega), Sub.rfl, Sub.rfl, trivial⟩ ⟨Sub.rfl, Sub.rfl, trivial⟩ ⟨obeq (by simp [A.cellsA]), trivial⟩ trivial⟩ -- loop 0 next.0
        · skip
          have ha := hat.keep hk (by
            rw [h22, Bool.or_false] at h33
            cases put with
            | true => exact .inl rfl
            | false => exact .inr (K.le_of_lt (by simpa using h33)))
          refine Aw_skip ?_
          refine Aw_region ?_
          refine Al_pu (Pu_move (.inl rfl) (by conv => lhs; whnf)) rfl rfl (by decide) (by kernel_rfl) ?_
          refine Al_pu (Pu_move (.inl rfl) (by conv => lhs; whnf)) rfl rfl (by decide) (by kernel_rfl) ?_
          refine Al_pu (Pu_move (.inl rfl) (by conv => lhs; whnf)) rfl rfl (by decide) (by kernel_rfl) ?_
          refine Al_pu (Pu_index rfl Try.underlying59 Try.sizeOf9 rfl rfl (rfl) (mapget hk)) rfl rfl (by decide) (by kernel_rfl) ?_
          refine Al_pu (Pu_load1 rfl Try.isAgg9 rfl rfl) rfl rfl (by decide) (by kernel_rfl) ?_
          refine Al_pu (Pu_slice1 rfl Try.underlying59 Try.sizeOf9 Try.zeroValue9 rfl (by decide) (by decide) (by kernel_rfl) rfl rfl rfl) rfl rfl (by decide) (by kernel_rfl) ?_
          refine Al_append rfl rfl rfl (by decide) (by kernel_rfl) elem59 (by decide) Try.sizeOf9 rfl rfl rfl (by simp; omega) (by decide) (fun g44 => ?_)
          refine Al_pu (Pu_move (.inr rfl) (by conv => lhs; whnf)) rfl rfl (by decide) (by kernel_rfl) ?_
          refine Al_nil ?_
          refine Aw_region ?_
          refine Al_pu (Pu_move (.inl rfl) (by conv => lhs; whnf)) rfl rfl (by decide) (by kernel_rfl) ?_
          refine Al_pu (Pu_add rfl rfl rfl (fun h1 h2 => by simp only [A.inI, A.maxI] at *; omega)) rfl rfl (by decide) (by kernel_rfl) ?_
          refine Al_pu (Pu_move (.inr rfl) (by conv => lhs; whnf)) rfl rfl (by decide) (by kernel_rfl) ?_
          refine Al_nil ?_
          exact ⟨(k + 1, put, out ++ [l[k]], g44), ⟨by omega, ⟨by simp; omega, ha, hu⟩⟩, by simp only []; omega, Le.ov ⟨Sub.num (by omega), Sub.rfl, Sub.rfl, trivial⟩ ⟨Sub.rfl, Sub.rfl, trivial⟩ ⟨obeq (by simp [A.cellsA]), trivial⟩ trivial⟩ -- loop 0 next.1
    · (try simp only [decide_eq_true_eq, decide_eq_false_iff_not, Bool.and_eq_true, Bool.or_eq_true, Bool.and_eq_false_iff, Bool.or_eq_false_iff, Bool.not_eq_true', Bool.not_eq_false', beq_iff_eq, Bool.not_eq_eq_eq_not, Bool.not_true, Bool.not_false, List.length_map, Bool.and_true, Bool.and_false, Bool.false_and, Bool.true_and, Bool.or_false, Bool.false_or] at h14)
      have hkk : k = l.length := by omega
      subst hkk
      have e := addF_new he hun
      have ei : out ++ (if put then [] else [s]) = insF l s := by
        have : out ++ (if put then l.drop l.length else insF (l.drop l.length) s) = insF l s := hat
        rw [List.drop_length] at this
        exact this
      refine Aw_exit ?_
      -- join 2: live [5], turned [5]
      refine Aw_seq ?_
      refine Aw_seq ?_
      refine Aw_region ?_
      refine Al_pu (Pu_move (.inl rfl) (by conv => lhs; whnf)) rfl rfl (by decide) (by kernel_rfl) ?_
      refine Al_pu (Pu_not rfl rfl) rfl rfl (by decide) (by kernel_rfl) ?_
      refine Al_nil ?_
      refine Aw_cond rfl (fun h46 => ?_) (fun h46 => ?_)
      · skip
        obtain rfl : put = false := by simpa using h46
        refine Aw_region ?_
        refine Al_pu (Pu_move (.inl rfl) (by conv => lhs; whnf)) rfl rfl (by decide) (by kernel_rfl) ?_
        refine Al_pu (Pu_move (.inl rfl) (by conv => lhs; whnf)) rfl rfl (by decide) (by kernel_rfl) ?_
        refine Al_pu (Pu_slice1 rfl Try.underlying59 Try.sizeOf9 Try.zeroValue9 rfl (by decide) (by decide) (by kernel_rfl) rfl rfl rfl) rfl rfl (by decide) (by kernel_rfl) ?_
        refine Al_append rfl rfl rfl (by decide) (by kernel_rfl) elem59 (by decide) Try.sizeOf9 rfl rfl rfl (by simp; omega) (by decide) (fun g50 => ?_)
        refine Al_pu (Pu_move (.inr rfl) (by conv => lhs; whnf)) rfl rfl (by decide) (by kernel_rfl) ?_
        refine Al_nil ?_
        refine Aw_seq ?_
        refine Aw_region ?_
        refine Al_pu (Pu_move (.inl rfl) (by conv => lhs; whnf)) rfl rfl (by decide) (by kernel_rfl) ?_
        refine Al_pu (Pu_move (.inr rfl) (by conv => lhs; whnf)) rfl rfl (by decide) (by kernel_rfl) ?_
        refine Al_nil ?_
        refine Aw_frz hnl (k := 5) [4] rfl ⟨rfl, trivial⟩ ?_
        refine Aw_ret ?_
        exact Sub.d (by rw [e, ← ei]; simp [A.cellsA]) -- ret 2
      · skip
        obtain rfl : put = true := by simpa using h46
        refine Aw_skip ?_
        refine Aw_seq ?_
        refine Aw_region ?_
        refine Al_pu (Pu_move (.inl rfl) (by conv => lhs; whnf)) rfl rfl (by decide) (by kernel_rfl) ?_
        refine Al_pu (Pu_move (.inr rfl) (by conv => lhs; whnf)) rfl rfl (by decide) (by kernel_rfl) ?_
        refine Al_nil ?_
        refine Aw_frz hnl (k := 5) [4] rfl ⟨rfl, trivial⟩ ?_
        refine Aw_ret ?_
        exact Sub.d (by rw [e, ← ei]; simp) -- ret 3
set_option maxRecDepth 100000 in
theorem rbounds_a (l : List Rng) (hl : l.length ≤ 100) : ACall Try.prog 36 [.sl 2 (l.map Rng.row)] (.sl 1 ((rboundsF l).map fun s => [tv s])) := by
  refine ACall_enter (fun _ _ => by kernel_rfl) Try.func36 rfl Try.ntmps36 Try.results36 (Nat.le_of_ble_eq_true rfl) (fun hok M0 w0 hnl => ?_)
  refine Aw_seq ?_
  refine Aw_region ?_
  refine Al_pu (Pu_move (.inr rfl) (by conv => lhs; whnf)) rfl rfl (by decide) (by kernel_rfl) ?_
  refine Al_nil ?_
  refine Aw_seq ?_
  refine Aw_region ?_
  refine Al_pu (Pu_move (.inr rfl) (by conv => lhs; whnf)) rfl rfl (by decide) (by kernel_rfl) ?_
  refine Al_nil ?_
  refine Aw_seq ?_
  refine Aw_seq ?_
  refine Aw_region ?_
  refine Al_pu (Pu_move (.inr rfl) (by conv => lhs; whnf)) rfl rfl (by decide) (by kernel_rfl) ?_
  refine Al_nil ?_
  refine Aw_block ?_
  refine Aw_loopk (ι := Nat) [0] [] (fun k => [(4, .d (iv k)), (3, .d (.sl 1 ((rboundsF (l.take k)).map fun s => [tv s])))]) (fun k => []) (fun k => k ≤ l.length) (fun k => l.length - k) (0) (Nat.zero_le _) ⟨Sub.rfl, Sub.nil, trivial⟩ trivial ?_
  rintro k hk0
  refine Aw_seq ?_
  refine Aw_seq ?_
  refine Aw_region ?_
  refine Al_pu (Pu_move (.inl rfl) (by conv => lhs; whnf)) rfl rfl (by decide) (by kernel_rfl) ?_
  refine Al_pu (Pu_move (.inl rfl) (by conv => lhs; whnf)) rfl rfl (by decide) (by kernel_rfl) ?_
  refine Al_pu (Pu_len rfl Try.underlying27 rfl (by first | exact List.length_map .. | exact rfl)) rfl rfl (by decide) (by kernel_rfl) ?_
  refine Al_pu (Pu_cmp rfl rfl rfl rfl) rfl rfl (by decide) (by kernel_rfl) ?_
  refine Al_nil ?_
  refine Aw_cond rfl (fun h8 => ?_) (fun h8 => ?_)
  · (try simp only [decide_eq_true_eq, decide_eq_false_iff_not, Bool.and_eq_true, Bool.or_eq_true, Bool.and_eq_false_iff, Bool.or_eq_false_iff, Bool.not_eq_true', Bool.not_eq_false', beq_iff_eq, Bool.not_eq_eq_eq_not, Bool.not_true, Bool.not_false, List.length_map, Bool.and_true, Bool.and_false, Bool.false_and, Bool.true_and, Bool.or_false, Bool.false_or] at h8)
    have hk : k < l.length := by omega
    have hn := rbounds_length (l.take k)
    rw [List.length_take] at hn
    have hn2 := addF_length (rboundsF (l.take k)) l[k].f
    refine Aw_skip ?_
    refine Aw_seq ?_
    refine Aw_block ?_
    refine Aw_seq ?_
    refine Aw_region ?_
    refine Al_pu (Pu_move (.inl rfl) (by conv => lhs; whnf)) rfl rfl (by decide) (by kernel_rfl) ?_
    refine Al_pu (Pu_move (.inl rfl) (by conv => lhs; whnf)) rfl rfl (by decide) (by kernel_rfl) ?_
    refine Al_pu (Pu_move (.inl rfl) (by conv => lhs; whnf)) rfl rfl (by decide) (by kernel_rfl) ?_
    refine Al_pu (Pu_index rfl Try.underlying27 Try.sizeOf35 rfl rfl (rfl) (mapget hk)) rfl rfl (by decide) (by kernel_rfl) ?_
    refine Al_pu (Pu_field 0 rfl Try.underlying35 rfl rfl Try.sizeOf9 rfl) rfl rfl (by decide) (by kernel_rfl) ?_
    refine Al_pu (Pu_load1 rfl Try.isAgg9 rfl rfl) rfl rfl (by decide) (by kernel_rfl) ?_
    refine Al_pu (Pu_call (radd_a (rboundsF (l.take k)) l[k].f (by omega)) rfl ⟨Sub.rfl, Sub.rfl, trivial⟩) rfl rfl (by decide) (by kernel_rfl) ?_
    refine Al_pu (Pu_move (.inr rfl) (by conv => lhs; whnf)) rfl rfl (by decide) (by kernel_rfl) ?_
    refine Al_nil ?_
    refine Aw_region ?_
    refine Al_pu (Pu_move (.inl rfl) (by conv => lhs; whnf)) rfl rfl (by decide) (by kernel_rfl) ?_
    refine Al_pu (Pu_move (.inl rfl) (by conv => lhs; whnf)) rfl rfl (by decide) (by kernel_rfl) ?_
    refine Al_pu (Pu_move (.inl rfl) (by conv => lhs; whnf)) rfl rfl (by decide) (by kernel_rfl) ?_
    refine Al_pu (Pu_index rfl Try.underlying27 Try.sizeOf35 rfl rfl (rfl) (mapget hk)) rfl rfl (by decide) (by kernel_rfl) ?_
    refine Al_pu (Pu_field 1 rfl Try.underlying35 rfl rfl Try.sizeOf9 rfl) rfl rfl (by decide) (by kernel_rfl) ?_
    refine Al_pu (Pu_load1 rfl Try.isAgg9 rfl rfl) rfl rfl (by decide) (by kernel_rfl) ?_
    refine Al_pu (Pu_call (radd_a (addF (rboundsF (l.take k)) l[k].f) l[k].t (by omega)) rfl ⟨Sub.rfl, Sub.rfl, trivial⟩) rfl rfl (by decide) (by kernel_rfl) ?_
    refine Al_pu (Pu_move (.inr rfl) (by conv => lhs; whnf)) rfl rfl (by decide) (by kernel_rfl) ?_
    refine Al_nil ?_
    refine Aw_region ?_
    refine Al_pu (Pu_move (.inl rfl) (by conv => lhs; whnf)) rfl rfl (by decide) (by kernel_rfl) ?_
    refine Al_pu (Pu_add rfl rfl rfl (fun h1 h2 => by simp only [A.inI, A.maxI] at *; omega)) rfl rfl (by decide) (by kernel_rfl) ?_
    refine Al_pu (Pu_move (.inr rfl) (by conv => lhs; whnf)) rfl rfl (by decide) (by kernel_rfl) ?_
    refine Al_nil ?_
    exact ⟨k + 1, by omega, by omega, Le.ov ⟨Sub.num (by omega), Sub.d (by rw [List.take_succ_eq_append_getElem hk, rbounds_snoc]), trivial⟩ ⟨Sub.rfl, trivial⟩ trivial trivial⟩ -- loop 0 next.0
  · (try simp only [decide_eq_true_eq, decide_eq_false_iff_not, Bool.and_eq_true, Bool.or_eq_true, Bool.and_eq_false_iff, Bool.or_eq_false_iff, Bool.not_eq_true', Bool.not_eq_false', beq_iff_eq, Bool.not_eq_eq_eq_not, Bool.not_true, Bool.not_false, List.length_map, Bool.and_true, Bool.and_false, Bool.false_and, Bool.true_and, Bool.or_false, Bool.false_or] at h8)
    have hkk : k = l.length := by omega
    rw [hkk, List.take_length]
    refine Aw_exit ?_
    refine Aw_seq ?_
    refine Aw_region ?_
    refine Al_pu (Pu_move (.inl rfl) (by conv => lhs; whnf)) rfl rfl (by decide) (by kernel_rfl) ?_
    refine Al_pu (Pu_move (.inr rfl) (by conv => lhs; whnf)) rfl rfl (by decide) (by kernel_rfl) ?_
    refine Al_nil ?_
    refine Aw_ret ?_
    exact Sub.rfl -- ret 0
end Go.Proofs.Ytfalbocgnmlncaa
