/- wire.ReadRow: the walk. -/
import Derived.Test.YtocgnmklgklfnaaSRx
set_option linter.unusedSimpArgs false
set_option linter.unusedVariables false
namespace Go.Proofs.Ytocgnmklgklfnaa
open Go.RowKit A R
namespace V
theorem nil_text (t : ByteArray) : (t.toList == (⟨#[]⟩ : ByteArray).toList) = decide (t.size = 0) := by
  rw [Lib.toList_data, Lib.toList_data]
  show (t.data.toList == []) = _
  cases h : t.data.toList with
  | nil =>
    have : t.size = 0 := by show t.data.size = 0; rw [← Array.length_toList, h]; rfl
    simp [this]
  | cons x r =>
    have : t.size ≠ 0 := by show t.data.size ≠ 0; rw [← Array.length_toList, h]; simp
    simp [this]
def wtexts (s : ByteArray) : Nat → WS → Option (List Rng × ByteArray × WS)
  | 0, p => some ([], ⟨#[]⟩, p)
  | k + 1, p => match wtexts s k p with
    | none => none
    | some (rs, fr, q) => if (wtextS s 32 q).2 = true ∨ (rtT s q.1 32).size = 0 then none else some (rs ++ [⟨fr, rtT s q.1 32⟩], rtT s q.1 32, wtextS s 32 q)
theorem wtexts_len (s : ByteArray) (p : WS) : ∀ (k : Nat) (rs : List Rng) (fr : ByteArray) (q : WS), wtexts s k p = some (rs, fr, q) → rs.length = k
  | 0, rs, fr, q, h => by simp only [wtexts, Option.some.injEq, Prod.mk.injEq] at h; rw [← h.1]; rfl
  | k + 1, rs, fr, q, h => by
    simp only [wtexts] at h
    split at h
    · cases h
    · rename_i rs' fr' q' h1
      split at h
      · cases h
      · simp only [Option.some.injEq, Prod.mk.injEq] at h
        rw [← h.1, List.length_append, wtexts_len s p k rs' fr' q' h1]; rfl
theorem wtexts_none {s : ByteArray} {p : WS} {k m : Nat} (h : wtexts s k p = none) (hk : k ≤ m) : wtexts s m p = none := by
  induction m with
  | zero => rwa [show k = 0 from by omega] at h
  | succ m ih =>
    rcases Nat.lt_or_ge m k with h1 | h1
    · rwa [show m + 1 = k from by omega]
    · rw [wtexts, ih h1]
/-- Parents, of which the first ones are counted down. -/
def decs (l : List Nat) (i : Nat) : List Int := ((l.take i).map fun x => ((x : Nat) : Int) - 1) ++ ((l.drop i).map fun x => ((x : Nat) : Int))
theorem decs_0 (l : List Nat) : decs l 0 = l.map fun x => ((x : Nat) : Int) := by simp [decs]
theorem decs_all (l : List Nat) : decs l l.length = l.map fun x => ((x : Nat) : Int) - 1 := by simp [decs]
theorem decs_len (l : List Nat) (i : Nat) : (decs l i).length = l.length := by simp [decs]; omega
theorem col_fl (l : List Int) : (l.map fun x => [iv x]).flatten = l.map iv := by
  induction l with
  | nil => rfl
  | cons x r ih => simp [ih]
theorem decs_at {l : List Nat} {i : Nat} (h : i < l.length) : ((decs l i).map fun x => [iv x]).flatten[i * 1]? = some (iv ((l[i] : Nat) : Int)) := by
  rw [col_fl, Nat.mul_one, List.getElem?_map]
  unfold decs
  rw [List.getElem?_append_right (by simp; omega), List.getElem?_map]
  simp [Nat.min_eq_left (Nat.le_of_lt h), h]
theorem decs_un (l : List Nat) (i : Nat) : ∀ q ∈ (decs l i).map fun x => [iv x], q.length = 1 := fun q hq => by
  obtain ⟨x, _, rfl⟩ := List.mem_map.1 hq; rfl
theorem drop_mid {α : Type} (A C : List α) (x : α) {i : Nat} (h : A.length = i) : (A ++ x :: C).drop (i + 1) = C := by
  subst h; rw [List.drop_append]; simp
theorem decs_set {l : List Nat} {i : Nat} (h : i < l.length) : ((decs l (i + 1)).map fun x => [iv x]).flatten = ((decs l i).map fun x => [iv x]).flatten.take (i * 1) ++ cellsA (iv (((l[i] : Nat) : Int) - 1)) ++ ((decs l i).map fun x => [iv x]).flatten.drop (i * 1 + 1) := by
  rw [col_fl, col_fl, Nat.mul_one]
  have e1 : decs l (i + 1) = ((l.take i).map fun x => ((x : Nat) : Int) - 1) ++ [((l[i] : Nat) : Int) - 1] ++ ((l.drop (i + 1)).map fun x => ((x : Nat) : Int)) := by
    unfold decs
    rw [List.take_succ_eq_append_getElem h, List.map_append]; rfl
  have e2 : decs l i = ((l.take i).map fun x => ((x : Nat) : Int) - 1) ++ (((l[i] : Nat) : Int) :: ((l.drop (i + 1)).map fun x => ((x : Nat) : Int))) := by
    unfold decs
    rw [List.drop_eq_getElem_cons h]; rfl
  have hl : (((l.take i).map fun x => ((x : Nat) : Int) - 1).map iv).length = i := by simp; omega
  rw [e1, e2]
  simp only [List.map_append, List.map_cons, List.map_nil]
  rw [List.take_left' hl]
  rw [drop_mid _ _ _ hl]
  rfl
/-- What wire.ReadRow answers. -/
def rrow (s : ByteArray) : Option SRow :=
  if (wnumS s 8 (0, false)).2 = true ∨ wnumV s 8 (0, false) = 0 then none else
  match wtexts s (wnumV s 8 (0, false) - 1) (wnumS s 8 (0, false)) with
  | none => none
  | some (rs, fr, q) =>
    if (wmany s 63 (wnumV s 8 (0, false)) q).2.2 = true then none else
    let o := wmany s 63 (wnumV s 8 (0, false)) q
    let ps := wmany s 6 (wnumV s 6 o.2) (wnumS s 6 o.2)
    let c : SRow := ⟨rs ++ [⟨fr, ⟨#[]⟩⟩], o.1.map fun x => ((x : Nat) : Int), ps.1.map fun x => ((x : Nat) : Int) - 1⟩
    if (!ps.2.2 && decide ((ps.2.1 : Int) = (s.size : Int)) && S.written c) = true then some c else none
def zrow : List AV := [.v (.slice none 0 0), .v (.slice none 0 0), .v (.slice none 0 0)]
def rrowA (s : ByteArray) : AV := match rrow s with
  | some c => .tup [.row c.row, bv true]
  | none => .tup [.row zrow, bv false]
theorem wnumV_le (s : ByteArray) (most : Nat) (p : WS) : wnumV s most p ≤ most := by
  unfold wnumV
  split
  · omega
  · rename_i h
    have h1 : ¬ (p.2 || !wokN s most p) = true := h
    simp only [Bool.or_eq_true, Bool.not_eq_true', not_or, Bool.not_eq_true, Bool.not_eq_false] at h1
    have h2 := h1.2
    unfold wokN at h2
    simp only [Bool.and_eq_true, decide_eq_true_eq] at h2
    omega
end V
set_option maxRecDepth 100000 in
set_option maxHeartbeats 2000000 in
theorem readrow_a (s : ByteArray) (hs : s.size ≤ 1000000) : ACall Try.prog 48 [tv s] (V.rrowA s) := by
  refine ACall_enterG (fun _ _ => by kernel_rfl) Try.func48 rfl Try.ntmps48 (Reads.cN1 Try.results48 Try.isAgg28 Try.sizeOf28) (Nat.le_of_ble_eq_true rfl) (fun hok M0 w0 hnl => ?_)
  have hn8 := V.wnumV_le s 8 (0, false)
  refine Aw_seq ?_
  refine Aw_region ?_
  refine Al_alloc rfl rfl rfl (by decide) Try.zeroValue28 rfl (by kernel_rfl) (fun g2 => ?_)
  refine Al_pu (Pu_move (.inr rfl) (by conv => lhs; whnf)) rfl rfl (by decide) (by kernel_rfl) ?_
  refine Al_nil ?_
  refine Aw_seq ?_
  refine Aw_region ?_
  refine Al_pu (Pu_move (.inl rfl) (by conv => lhs; whnf)) rfl rfl (by decide) (by kernel_rfl) ?_
  refine Al_pu (Pu_build (aa := [(0, _)]) rfl Try.underlying105 Try.zeroValue105 (places105 Try.underlying105) (by kernel_rfl) ⟨rfl, rfl, rfl, trivial⟩ rfl) rfl rfl (by decide) (by kernel_rfl) ?_
  refine Al_boxN rfl rfl rfl (by decide) (by kernel_rfl) rfl (fun g12 => ?_)
  refine Al_pu (Pu_move (.inr rfl) (by conv => lhs; whnf)) rfl rfl (by decide) (by kernel_rfl) ?_
  refine Al_nil ?_
  refine Aw_seq ?_
  refine Aw_region ?_
  refine Al_pu (Pu_move (.inl rfl) (by conv => lhs; whnf)) rfl rfl (by decide) (by kernel_rfl) ?_
  refine Al_mcall (wnum_m s (0, false) 8 hs (by omega)) rfl rfl rfl (by decide) (by kernel_rfl) rfl rfl ⟨Sub.rfl, trivial⟩ ?_
  refine Al_pu (Pu_move (.inr rfl) (by conv => lhs; whnf)) rfl rfl (by decide) (by kernel_rfl) ?_
  refine Al_nil ?_
  refine Aw_seq ?_
  refine Aw_seq ?_
  refine Aw_region ?_
  refine Al_pu (Pu_move (.inl rfl) (by conv => lhs; whnf)) rfl rfl (by decide) (by kernel_rfl) ?_
  refine Al_pu (Pu_nilb rfl rfl) rfl rfl (by decide) (by kernel_rfl) ?_
  refine Al_pu (Pu_fieldb 2 rfl Try.underlying105 rfl rfl Try.sizeOf4 rfl) rfl rfl (by decide) (by kernel_rfl) ?_
  refine Al_pu (Pu_loadb rfl Try.isAgg4 rfl rfl rfl) rfl rfl (by decide) (by kernel_rfl) ?_
  refine Al_pu (Pu_move (.inl rfl) (by conv => lhs; whnf)) rfl rfl (by decide) (by kernel_rfl) ?_
  refine Al_st (St_gd [] rfl rfl rfl rfl trivial (fun hg20 => by exact Pu_move (.inl rfl) (by conv => lhs; whnf))) rfl (by decide) (by kernel_rfl) (by intro j b oj dj h1 h2 h3; cases h1; cases h2; cases h3; decide) ?_
  refine Al_st (St_gd [20] rfl rfl rfl rfl ⟨⟨_, rfl⟩, trivial⟩ (fun hg21 => Pu_cmp rfl rfl rfl rfl)) rfl (by decide) (by kernel_rfl) (by intro j b oj dj h1 h2 h3; cases h1; cases h2; cases h3; decide) ?_
  refine Al_pu (Pu_or rfl rfl rfl rfl) rfl rfl (by decide) (by kernel_rfl) ?_
  refine Al_nil ?_
  refine Aw_cond rfl (fun h22 => ?_) (fun h22 => ?_)
  · skip
    have hno : V.rrow s = none := by
      unfold V.rrow
      rw [if_pos]
      simp only [Bool.or_eq_true, decide_eq_true_eq] at h22
      rcases h22 with h | h
      · exact .inl h
      · exact .inr (by omega)
    refine Aw_seq ?_
    refine Aw_region ?_
    refine Al_pu (Pu_build (aa := []) rfl Try.underlying28 Try.zeroValue28 (places28 Try.underlying28) (by kernel_rfl) trivial rfl) rfl rfl (by decide) (by kernel_rfl) ?_
    refine Al_storeN rfl rfl rfl (by kernel_rfl) Try.isAgg28 Try.sizeOf28 rfl rfl rfl rfl (Nat.le_of_ble_eq_true rfl) ?_
    refine Al_pu (Pu_move (.inr rfl) (by conv => lhs; whnf)) rfl rfl (by decide) (by kernel_rfl) ?_
    refine Al_nil ?_
    refine Aw_ret ?_
    exact ⟨2, g2, 0, _, _, _, _, rfl, rfl, rfl, rfl, Sub.rfl, by unfold V.rrowA; rw [hno]⟩ -- ret 0
  · skip
    have hyes : ¬ ((V.wnumS s 8 (0, false)).2 = true ∨ V.wnumV s 8 (0, false) = 0) := by
      simp only [Bool.or_eq_false_iff, decide_eq_false_iff_not] at h22
      rintro (h | h)
      · rw [h22.1] at h; cases h
      · exact h22.2 (by omega)
    obtain ⟨n, hn⟩ : ∃ n, n = V.wnumV s 8 (0, false) := ⟨_, rfl⟩
    obtain ⟨p1, hp1⟩ : ∃ p1, p1 = V.wnumS s 8 (0, false) := ⟨_, rfl⟩
    rw [← hn, ← hp1] at hyes ⊢
    rw [← hn] at hn8
    have hn1 : 1 ≤ n := by
      have := fun h => hyes (.inr h)
      omega
    refine Aw_skip ?_
    refine Aw_seq ?_
    refine Aw_region ?_
    refine Al_alloc rfl rfl rfl (by decide) Try.zeroValue28 rfl (by kernel_rfl) (fun g6 => ?_)
    refine Al_nil ?_
    refine Aw_seq ?_
    refine Aw_owncell 0 (k := 6) (k2 := 60) (e := 46) (n := 2) rfl rfl rfl (fun g60 => ?_)
    refine Aw_region ?_
    refine Al_pu (Pu_move (.inr rfl) (by conv => lhs; whnf)) rfl rfl (by decide) (by kernel_rfl) ?_
    refine Al_nil ?_
    refine Aw_seq ?_
    refine Aw_seq ?_
    refine Aw_region ?_
    refine Al_pu (Pu_move (.inl rfl) (by conv => lhs; whnf)) rfl rfl (by decide) (by kernel_rfl) ?_
    refine Al_pu (Pu_sub rfl rfl rfl (fun h1 h2 => by simp only [A.inI, A.maxI] at *; omega)) rfl rfl (by decide) (by kernel_rfl) ?_
    refine Al_pu (Pu_move (.inl rfl) (by conv => lhs; whnf)) rfl rfl (by decide) (by kernel_rfl) ?_
    refine Al_nil ?_
    refine Aw_block ?_
    refine Aw_loopk (ι := Nat × (List Rng) × ByteArray × V.WS × Nat) [2, 4, 5, 6, 25] [2] (fun (k, rs, fr, q, g) => [(26, .d (iv k)), (7, .d (tv fr))]) (fun (k, rs, fr, q, g) => [(6, g6, .box 28 [.ow 60 g, .d (.v (.slice none 0 0)), .d (.v (.slice none 0 0))]), (60, g, .arr 46 2 (rs.map Rng.row)), (12, g12, .box 105 ((V.wcs s q).map .d))]) (fun (k, rs, fr, q, g) => k ≤ (n - 1) ∧ V.wtexts s k p1 = some (rs, fr, q)) (fun (k, rs, fr, q, g) => (n - 1) - k) ((0, [], ⟨#[]⟩, p1, g60)) (⟨Nat.zero_le _, rfl⟩) ⟨Sub.rfl, Sub.rfl, trivial⟩ ⟨rfl, rfl, rfl, trivial⟩ ?_
    rintro ⟨k, rs, fr, q, g⟩ ⟨hk0, hw⟩
    refine Aw_seq ?_
    refine Aw_region ?_
    refine Al_pu (Pu_cmp rfl rfl rfl rfl) rfl rfl (by decide) (by kernel_rfl) ?_
    refine Al_nil ?_
    refine Aw_seq ?_
    refine Aw_cond rfl (fun h27 => ?_) (fun h27 => ?_)
    · (try simp only [decide_eq_true_eq, decide_eq_false_iff_not, Bool.and_eq_true, Bool.or_eq_true, Bool.and_eq_false_iff, Bool.or_eq_false_iff, Bool.not_eq_true', Bool.not_eq_false', beq_iff_eq, Bool.not_eq_eq_eq_not, Bool.not_true, Bool.not_false, List.length_map, Bool.and_true, Bool.and_false, Bool.false_and, Bool.true_and, Bool.or_false, Bool.false_or] at h27)
      have hlr := V.wtexts_len s p1 k rs fr q hw
      refine Aw_skip ?_
      refine Aw_seq ?_
      refine Aw_block ?_
      refine Aw_seq ?_
      refine Aw_region ?_
      refine Al_pu (Pu_move (.inl rfl) (by conv => lhs; whnf)) rfl rfl (by decide) (by kernel_rfl) ?_
      refine Al_mcall (wtext_m s q 32 hs (by omega)) rfl rfl rfl (by decide) (by kernel_rfl) rfl rfl ⟨Sub.rfl, trivial⟩ ?_
      refine Al_pu (Pu_move (.inr rfl) (by conv => lhs; whnf)) rfl rfl (by decide) (by kernel_rfl) ?_
      refine Al_nil ?_
      refine Aw_seq ?_
      refine Aw_seq ?_
      refine Aw_region ?_
      refine Al_pu (Pu_move (.inl rfl) (by conv => lhs; whnf)) rfl rfl (by decide) (by kernel_rfl) ?_
      refine Al_pu (Pu_nilb rfl rfl) rfl rfl (by decide) (by kernel_rfl) ?_
      refine Al_pu (Pu_fieldb 2 rfl Try.underlying105 rfl rfl Try.sizeOf4 rfl) rfl rfl (by decide) (by kernel_rfl) ?_
      refine Al_pu (Pu_loadb rfl Try.isAgg4 rfl rfl rfl) rfl rfl (by decide) (by kernel_rfl) ?_
      refine Al_pu (Pu_move (.inl rfl) (by conv => lhs; whnf)) rfl rfl (by decide) (by kernel_rfl) ?_
      refine Al_st (St_gd [] rfl rfl rfl rfl trivial (fun hg35 => by exact Pu_move (.inl rfl) (by conv => lhs; whnf))) rfl (by decide) (by kernel_rfl) (by intro j b oj dj h1 h2 h3; cases h1; cases h2; cases h3; decide) ?_
      refine Al_st (St_gd [35] rfl rfl rfl rfl ⟨⟨_, rfl⟩, trivial⟩ (fun hg36 => Pu_str rfl rfl rfl rfl)) rfl (by decide) (by kernel_rfl) (by intro j b oj dj h1 h2 h3; cases h1; cases h2; cases h3; decide) ?_
      refine Al_pu (Pu_or rfl rfl rfl rfl) rfl rfl (by decide) (by kernel_rfl) ?_
      refine Al_nil ?_
      refine Aw_cond rfl (fun h37 => ?_) (fun h37 => ?_)
      · skip
        have hno : V.rrow s = none := by
          have h1 : V.wtexts s (k + 1) p1 = none := by
            simp only [V.wtexts, hw]
            rw [if_pos]
            simp only [Bool.or_eq_true] at h37
            rcases h37 with h | h
            · exact .inl h
            · refine .inr ?_
              rw [V.nil_text] at h
              exact of_decide_eq_true h
          have h2 := V.wtexts_none h1 (show k + 1 ≤ n - 1 by omega)
          unfold V.rrow
          rw [← hn, ← hp1, if_neg hyes, h2]
        refine Aw_seq ?_
        refine Aw_region ?_
        refine Al_pu (Pu_build (aa := []) rfl Try.underlying28 Try.zeroValue28 (places28 Try.underlying28) (by kernel_rfl) trivial rfl) rfl rfl (by decide) (by kernel_rfl) ?_
        refine Al_storeN rfl rfl rfl (by kernel_rfl) Try.isAgg28 Try.sizeOf28 rfl rfl rfl rfl (Nat.le_of_ble_eq_true rfl) ?_
        refine Al_pu (Pu_move (.inr rfl) (by conv => lhs; whnf)) rfl rfl (by decide) (by kernel_rfl) ?_
        refine Al_nil ?_
        refine Aw_ret ?_
        exact ⟨2, g2, 0, _, _, _, _, rfl, rfl, rfl, rfl, Sub.rfl, by unfold V.rrowA; rw [hno]⟩ -- ret 1
      · skip
        have hnx : V.wtexts s (k + 1) p1 = some (rs ++ [⟨fr, V.rtT s q.1 32⟩], V.rtT s q.1 32, V.wtextS s 32 q) := by
          simp only [V.wtexts, hw]
          rw [if_neg]
          simp only [Bool.or_eq_false_iff] at h37
          rintro (h | h)
          · have := h37.1
            rw [show (V.wtextS s 32 q).2 = true from h] at this; cases this
          · have h2 := h37.2
            rw [V.nil_text] at h2
            exact of_decide_eq_false h2 h
        refine Aw_skip ?_
        refine Aw_seq ?_
        refine Aw_region ?_
        refine Al_pu (Pu_fieldb 0 rfl Try.underlying28 rfl rfl Try.sizeOf25 rfl) rfl rfl (by decide) (by kernel_rfl) ?_
        refine Al_pu (Pu_loadb rfl Try.isAgg25 rfl rfl rfl) rfl rfl (by decide) (by kernel_rfl) ?_
        refine Al_pu (Pu_move (.inl rfl) (by conv => lhs; whnf)) rfl rfl (by decide) (by kernel_rfl) ?_
        refine Al_pu (Pu_move (.inl rfl) (by conv => lhs; whnf)) rfl rfl (by decide) (by kernel_rfl) ?_
        refine Al_pu (Pu_build (aa := [(0, _), (1, _)]) rfl Try.underlying46 Try.zeroValue46 (places46 Try.underlying46) (by kernel_rfl) ⟨rfl, rfl, rfl, rfl, rfl, rfl, trivial⟩ rfl) rfl rfl (by decide) (by kernel_rfl) ?_
        refine Al_pu (Pu_slice1 rfl Try.underlying25 Try.sizeOf46 Try.zeroValue46 rfl (by decide) (by decide) (by kernel_rfl) rfl rfl rfl) rfl rfl (by decide) (by kernel_rfl) ?_
        refine Al_append rfl rfl rfl (by decide) (by kernel_rfl) elem25 (by decide) Try.sizeOf46 rfl rfl rfl (by simp; omega) (by decide) (fun g45 => ?_)
        refine Al_pu (Pu_fieldb 0 rfl Try.underlying28 rfl rfl Try.sizeOf25 rfl) rfl rfl (by decide) (by kernel_rfl) ?_
        refine Al_store1 rfl rfl rfl (by kernel_rfl) Try.isAgg25 Try.sizeOf25 rfl rfl (Nat.le_of_ble_eq_true rfl) (by conv => lhs; whnf) rfl ?_
        refine Al_nil ?_
        refine Aw_region ?_
        refine Al_pu (Pu_move (.inl rfl) (by conv => lhs; whnf)) rfl rfl (by decide) (by kernel_rfl) ?_
        refine Al_pu (Pu_move (.inr rfl) (by conv => lhs; whnf)) rfl rfl (by decide) (by kernel_rfl) ?_
        refine Al_nil ?_
        refine Aw_region ?_
        refine Al_pu (Pu_add rfl rfl rfl (fun h1 h2 => by simp only [A.inI, A.maxI] at *; omega)) rfl rfl (by decide) (by kernel_rfl) ?_
        refine Al_pu (Pu_move (.inl rfl) (by conv => lhs; whnf)) rfl rfl (by decide) (by kernel_rfl) ?_
        refine Al_nil ?_
        exact ⟨(k + 1, (rs ++ [⟨fr, V.rtT s q.1 32⟩]), V.rtT s q.1 32, V.wtextS s 32 q, g45), ⟨by omega, hnx⟩, by simp only []; omega, Le.ov ⟨Sub.num (by omega), Sub.rfl, trivial⟩ ⟨Sub.rfl, Sub.rfl, Sub.rfl, Sub.rfl, Sub.rfl, trivial⟩ ⟨rfl, obeq (by simp [Rng.row, A.cellsA]), rfl, trivial⟩ ⟨rfl, trivial⟩⟩ -- loop 0 next.0
    · (try simp only [decide_eq_true_eq, decide_eq_false_iff_not, Bool.and_eq_true, Bool.or_eq_true, Bool.and_eq_false_iff, Bool.or_eq_false_iff, Bool.not_eq_true', Bool.not_eq_false', beq_iff_eq, Bool.not_eq_eq_eq_not, Bool.not_true, Bool.not_false, List.length_map, Bool.and_true, Bool.and_false, Bool.false_and, Bool.true_and, Bool.or_false, Bool.false_or] at h27)
      obtain rfl : k = n - 1 := by omega
      have hlr := V.wtexts_len s p1 _ rs fr q hw
      refine Aw_exit ?_
      refine Aw_seq ?_
      refine Aw_region ?_
      refine Al_pu (Pu_fieldb 0 rfl Try.underlying28 rfl rfl Try.sizeOf25 rfl) rfl rfl (by decide) (by kernel_rfl) ?_
      refine Al_pu (Pu_loadb rfl Try.isAgg25 rfl rfl rfl) rfl rfl (by decide) (by kernel_rfl) ?_
      refine Al_pu (Pu_move (.inl rfl) (by conv => lhs; whnf)) rfl rfl (by decide) (by kernel_rfl) ?_
      refine Al_pu (Pu_build (aa := [(0, _)]) rfl Try.underlying46 Try.zeroValue46 (places46 Try.underlying46) (by kernel_rfl) ⟨rfl, rfl, rfl, trivial⟩ rfl) rfl rfl (by decide) (by kernel_rfl) ?_
      refine Al_pu (Pu_slice1 rfl Try.underlying25 Try.sizeOf46 Try.zeroValue46 rfl (by decide) (by decide) (by kernel_rfl) rfl rfl rfl) rfl rfl (by decide) (by kernel_rfl) ?_
      refine Al_append rfl rfl rfl (by decide) (by kernel_rfl) elem25 (by decide) Try.sizeOf46 rfl rfl rfl (by simp; omega) (by decide) (fun g54 => ?_)
      refine Al_pu (Pu_fieldb 0 rfl Try.underlying28 rfl rfl Try.sizeOf25 rfl) rfl rfl (by decide) (by kernel_rfl) ?_
      refine Al_store1 rfl rfl rfl (by kernel_rfl) Try.isAgg25 Try.sizeOf25 rfl rfl (Nat.le_of_ble_eq_true rfl) (by conv => lhs; whnf) rfl ?_
      refine Al_nil ?_
      refine Aw_seq ?_
      refine Aw_region ?_
      refine Al_pu (Pu_move (.inl rfl) (by conv => lhs; whnf)) rfl rfl (by decide) (by kernel_rfl) ?_
      refine Al_pu (Pu_move (.inl rfl) (by conv => lhs; whnf)) rfl rfl (by decide) (by kernel_rfl) ?_
      refine Al_pu (Pu_makeFuncS (ys := [_]) (xs := []) [.bx 12 g12 0] [] rfl ⟨Sub.rfl, trivial⟩ trivial) rfl rfl (by decide) (by kernel_rfl) ?_
      refine Al_gcall [(1000, 12, g12)] [(1001, 59)] (wmany_g s q n 63 hs (by omega) (by omega)) rfl rfl rfl (by decide) (by kernel_rfl) ⟨rfl, trivial⟩ rfl ⟨Sub.rfl, Sub.rfl, Sub.rfl, trivial⟩ (fun g59 => ?_)
      refine Al_pu (Pu_fieldb 1 rfl Try.underlying28 rfl rfl Try.sizeOf26 rfl) rfl rfl (by decide) (by kernel_rfl) ?_
      refine Al_store1 rfl rfl rfl (by kernel_rfl) Try.isAgg26 Try.sizeOf26 rfl rfl (Nat.le_of_ble_eq_true rfl) (by conv => lhs; whnf) rfl ?_
      refine Al_nil ?_
      refine Aw_seq ?_
      refine Aw_seq ?_
      refine Aw_region ?_
      refine Al_pu (Pu_move (.inl rfl) (by conv => lhs; whnf)) rfl rfl (by decide) (by kernel_rfl) ?_
      refine Al_pu (Pu_nilb rfl rfl) rfl rfl (by decide) (by kernel_rfl) ?_
      refine Al_pu (Pu_fieldb 2 rfl Try.underlying105 rfl rfl Try.sizeOf4 rfl) rfl rfl (by decide) (by kernel_rfl) ?_
      refine Al_pu (Pu_loadb rfl Try.isAgg4 rfl rfl rfl) rfl rfl (by decide) (by kernel_rfl) ?_
      refine Al_nil ?_
      refine Aw_cond rfl (fun h64 => ?_) (fun h64 => ?_)
      · (try simp only [decide_eq_true_eq, decide_eq_false_iff_not, Bool.and_eq_true, Bool.or_eq_true, Bool.and_eq_false_iff, Bool.or_eq_false_iff, Bool.not_eq_true', Bool.not_eq_false', beq_iff_eq, Bool.not_eq_eq_eq_not, Bool.not_true, Bool.not_false, List.length_map, Bool.and_true, Bool.and_false, Bool.false_and, Bool.true_and, Bool.or_false, Bool.false_or] at h64)
        have hno : V.rrow s = none := by
          unfold V.rrow
          rw [← hn, ← hp1, if_neg hyes, hw]
          simp only
          rw [if_pos h64]
        refine Aw_seq ?_
        refine Aw_region ?_
        refine Al_pu (Pu_build (aa := []) rfl Try.underlying28 Try.zeroValue28 (places28 Try.underlying28) (by kernel_rfl) trivial rfl) rfl rfl (by decide) (by kernel_rfl) ?_
        refine Al_storeN rfl rfl rfl (by kernel_rfl) Try.isAgg28 Try.sizeOf28 rfl rfl rfl rfl (Nat.le_of_ble_eq_true rfl) ?_
        refine Al_pu (Pu_move (.inr rfl) (by conv => lhs; whnf)) rfl rfl (by decide) (by kernel_rfl) ?_
        refine Al_nil ?_
        refine Aw_ret ?_
        exact ⟨2, g2, 0, _, _, _, _, rfl, rfl, rfl, rfl, Sub.rfl, by unfold V.rrowA; rw [hno]⟩ -- ret 2
      · (try simp only [decide_eq_true_eq, decide_eq_false_iff_not, Bool.and_eq_true, Bool.or_eq_true, Bool.and_eq_false_iff, Bool.or_eq_false_iff, Bool.not_eq_true', Bool.not_eq_false', beq_iff_eq, Bool.not_eq_eq_eq_not, Bool.not_true, Bool.not_false, List.length_map, Bool.and_true, Bool.and_false, Bool.false_and, Bool.true_and, Bool.or_false, Bool.false_or] at h64)
        obtain ⟨o, ho⟩ : ∃ o, o = V.wmany s 63 n q := ⟨_, rfl⟩
        have hol : o.1.length = n := by rw [ho]; exact V.wmany_len s 63 q n
        rw [← ho] at h64 ⊢
        have hm6 := V.wnumV_le s 6 o.2
        refine Aw_skip ?_
        refine Aw_seq ?_
        refine Aw_region ?_
        refine Al_pu (Pu_move (.inl rfl) (by conv => lhs; whnf)) rfl rfl (by decide) (by kernel_rfl) ?_
        refine Al_mcall (wnum_m s o.2 6 hs (by omega)) rfl rfl rfl (by decide) (by kernel_rfl) rfl rfl ⟨Sub.rfl, trivial⟩ ?_
        refine Al_pu (Pu_move (.inl rfl) (by conv => lhs; whnf)) rfl rfl (by decide) (by kernel_rfl) ?_
        refine Al_pu (Pu_makeFuncS (ys := [_]) (xs := []) [.bx 12 g12 0] [] rfl ⟨Sub.rfl, trivial⟩ trivial) rfl rfl (by decide) (by kernel_rfl) ?_
        refine Al_gcall [(1000, 12, g12)] [(1001, 70)] (wmany_g s (V.wnumS s 6 o.2) (V.wnumV s 6 o.2) 6 hs (by omega) (by omega)) rfl rfl rfl (by decide) (by kernel_rfl) ⟨rfl, trivial⟩ rfl ⟨Sub.rfl, Sub.rfl, Sub.rfl, trivial⟩ (fun g70 => ?_)
        refine Al_pu (Pu_fieldb 2 rfl Try.underlying28 rfl rfl Try.sizeOf26 rfl) rfl rfl (by decide) (by kernel_rfl) ?_
        refine Al_store1 rfl rfl rfl (by kernel_rfl) Try.isAgg26 Try.sizeOf26 rfl rfl (Nat.le_of_ble_eq_true rfl) (by conv => lhs; whnf) rfl ?_
        refine Al_nil ?_
        refine Aw_seq ?_
        refine Aw_seq ?_
        have hpl := V.wmany_len s 6 (V.wnumS s 6 o.2) (V.wnumV s 6 o.2)
        obtain ⟨ps, hps⟩ : ∃ ps, ps = V.wmany s 6 (V.wnumV s 6 o.2) (V.wnumS s 6 o.2) := ⟨_, rfl⟩
        rw [← hps] at hpl ⊢
        refine Aw_region ?_
        refine Al_pu (Pu_fieldb 2 rfl Try.underlying28 rfl rfl Try.sizeOf26 rfl) rfl rfl (by decide) (by kernel_rfl) ?_
        refine Al_pu (Pu_loadb rfl Try.isAgg26 rfl rfl rfl) rfl rfl (by decide) (by kernel_rfl) ?_
        refine Al_pu (Pu_lenOw (m := V.wnumV s 6 o.2) rfl Try.underlying26 rfl rfl (by rw [List.length_map]; exact hpl)) rfl rfl (by decide) (by kernel_rfl) ?_
        refine Al_pu (Pu_move (.inl rfl) (by conv => lhs; whnf)) rfl rfl (by decide) (by kernel_rfl) ?_
        refine Al_nil ?_
        refine Aw_block ?_
        refine Aw_loopk (ι := Nat) [2, 4, 6, 74] [2, 6, 12, 59, 60] (fun i => [(75, .d (iv i))]) (fun i => [(70, g70, .arr 3 1 ((V.decs ps.1 i).map fun x => [iv x]))]) (fun i => i ≤ (V.wnumV s 6 o.2)) (fun i => (V.wnumV s 6 o.2) - i) (0) (Nat.zero_le _) ⟨Sub.rfl, trivial⟩ ⟨obeq (by rw [V.decs_0, List.map_map]; rfl), trivial⟩ ?_
        rintro i hk1
        refine Aw_seq ?_
        refine Aw_region ?_
        refine Al_pu (Pu_cmp rfl rfl rfl rfl) rfl rfl (by decide) (by kernel_rfl) ?_
        refine Al_nil ?_
        refine Aw_seq ?_
        refine Aw_cond rfl (fun h76 => ?_) (fun h76 => ?_)
        · (try simp only [decide_eq_true_eq, decide_eq_false_iff_not, Bool.and_eq_true, Bool.or_eq_true, Bool.and_eq_false_iff, Bool.or_eq_false_iff, Bool.not_eq_true', Bool.not_eq_false', beq_iff_eq, Bool.not_eq_eq_eq_not, Bool.not_true, Bool.not_false, List.length_map, Bool.and_true, Bool.and_false, Bool.false_and, Bool.true_and, Bool.or_false, Bool.false_or] at h76)
          have hi : i < ps.1.length := by omega
          have hdl := V.decs_len ps.1 i
          refine Aw_skip ?_
          refine Aw_seq ?_
          refine Aw_block ?_
          refine Aw_seq ?_
          refine Aw_region ?_
          refine Al_pu (Pu_move (.inl rfl) (by conv => lhs; whnf)) rfl rfl (by decide) (by kernel_rfl) ?_
          refine Al_pu (Pu_move (.inr rfl) (by conv => lhs; whnf)) rfl rfl (by decide) (by kernel_rfl) ?_
          refine Al_nil ?_
          refine Aw_region ?_
          refine Al_pu (Pu_fieldb 2 rfl Try.underlying28 rfl rfl Try.sizeOf26 rfl) rfl rfl (by decide) (by kernel_rfl) ?_
          refine Al_pu (Pu_loadb rfl Try.isAgg26 rfl rfl rfl) rfl rfl (by decide) (by kernel_rfl) ?_
          refine Al_pu (Pu_move (.inl rfl) (by conv => lhs; whnf)) rfl rfl (by decide) (by kernel_rfl) ?_
          refine Al_pu (Pu_indexOw rfl Try.underlying26 Try.sizeOf3 rfl rfl rfl rfl (by rw [List.length_map]; omega)) rfl rfl (by decide) (by kernel_rfl) ?_
          refine Al_pu (Pu_loadArr rfl Try.isAgg3 rfl rfl (V.decs_at hi)) rfl rfl (by decide) (by kernel_rfl) ?_
          refine Al_pu (Pu_sub rfl rfl rfl (fun h1 h2 => by simp only [A.inI] at *; omega)) rfl rfl (by decide) (by kernel_rfl) ?_
          refine Al_pu (Pu_indexOw rfl Try.underlying26 Try.sizeOf3 rfl rfl rfl rfl (by rw [List.length_map]; omega)) rfl rfl (by decide) (by kernel_rfl) ?_
          refine Al_storeArr ((V.decs ps.1 (i + 1)).map fun x => [iv x]) rfl rfl rfl (by kernel_rfl) Try.sizeOf3 rfl rfl rfl rfl rfl (by rw [List.length_map]; omega) (by rw [List.length_map, List.length_map, V.decs_len, hdl]) (V.decs_un _ _) (V.decs_set hi) ?_
          refine Al_nil ?_
          refine Aw_region ?_
          refine Al_pu (Pu_add rfl rfl rfl (fun h1 h2 => by simp only [A.inI, A.maxI] at *; omega)) rfl rfl (by decide) (by kernel_rfl) ?_
          refine Al_pu (Pu_move (.inl rfl) (by conv => lhs; whnf)) rfl rfl (by decide) (by kernel_rfl) ?_
          refine Al_nil ?_
          exact ⟨i + 1, by omega, by omega, Le.ov ⟨Sub.num (by omega), trivial⟩ ⟨Sub.rfl, Sub.rfl, Sub.rfl, Sub.rfl, trivial⟩ ⟨rfl, trivial⟩ ⟨rfl, rfl, rfl, rfl, rfl, trivial⟩⟩ -- loop 1 next.0
        · (try simp only [decide_eq_true_eq, decide_eq_false_iff_not, Bool.and_eq_true, Bool.or_eq_true, Bool.and_eq_false_iff, Bool.or_eq_false_iff, Bool.not_eq_true', Bool.not_eq_false', beq_iff_eq, Bool.not_eq_eq_eq_not, Bool.not_true, Bool.not_false, List.length_map, Bool.and_true, Bool.and_false, Bool.false_and, Bool.true_and, Bool.or_false, Bool.false_or] at h76)
          obtain rfl : i = V.wnumV s 6 o.2 := by omega
          have hde : V.decs ps.1 (V.wnumV s 6 o.2) = ps.1.map fun x => ((x : Nat) : Int) - 1 := by rw [← hpl]; exact V.decs_all _
          rw [hde]
          have e1 : (rs.map Rng.row) ++ [cellsA (.row [tv fr, tv ⟨#[]⟩])] = (rs ++ [(⟨fr, ⟨#[]⟩⟩ : Rng)]).map Rng.row := by simp [Rng.row, A.cellsA]
          have e2 : (o.1.map fun x => [iv ((x : Nat) : Int)]) = (o.1.map fun x => ((x : Nat) : Int)).map fun x => [iv x] := by rw [List.map_map]; rfl
          refine Aw_exit ?_
          refine Aw_seq ?_
          refine Aw_seq ?_
          obtain ⟨cc, hcc⟩ : ∃ cc : SRow, cc = SRow.mk (rs ++ [(⟨fr, ⟨#[]⟩⟩ : Rng)]) (o.1.map fun x => ((x : Nat) : Int)) (ps.1.map fun x => ((x : Nat) : Int) - 1) := ⟨_, rfl⟩
          refine Aw_frzc 0 (k := 60) (kb := 6) hnl [] rfl rfl rfl rfl trivial ?_
          refine Aw_frzc 1 (k := 59) (kb := 6) hnl [] rfl rfl rfl rfl trivial ?_
          refine Aw_frzc 2 (k := 70) (kb := 6) hnl [] rfl rfl rfl rfl trivial ?_
          refine Aw_region ?_
          refine Al_pu (Pu_move (.inl rfl) (by conv => lhs; whnf)) rfl rfl (by decide) (by kernel_rfl) ?_
          refine Al_mcall (wdone_m s ps.2) rfl rfl rfl (by decide) (by kernel_rfl) rfl rfl trivial ?_
          refine Al_pu (Pu_not rfl rfl) rfl rfl (by decide) (by kernel_rfl) ?_
          refine Al_pu (Pu_move (.inl rfl) (by conv => lhs; whnf)) rfl rfl (by decide) (by kernel_rfl) ?_
          refine Al_st (St_gd [] rfl rfl rfl rfl trivial (fun hg90 => Pu_loadbN (r := [_, _, _]) rfl Try.isAgg28 Try.sizeOf28 rfl rfl rfl rfl)) rfl (by decide) (by kernel_rfl) (by intro j b oj dj h1 h2 h3; cases h1; cases h2; cases h3; decide) ?_
          refine Al_st (St_gd [90] rfl rfl rfl rfl ⟨⟨_, rfl⟩, trivial⟩ (fun hg91 => by exact Pu_call (swritten_a cc) rfl ⟨Sub.d (by rw [hcc]; show AV.row [_, _, _] = AV.row [_, _, _]; rw [← e1, ← e2]; rfl), trivial⟩)) rfl (by decide) (by kernel_rfl) (by intro j b oj dj h1 h2 h3; cases h1; cases h2; cases h3; decide) ?_
          refine Al_st (St_gd [91] rfl rfl rfl rfl ⟨⟨_, rfl⟩, trivial⟩ (fun hg92 => Pu_not rfl rfl)) rfl (by decide) (by kernel_rfl) (by intro j b oj dj h1 h2 h3; cases h1; cases h2; cases h3; decide) ?_
          refine Al_pu (Pu_or rfl rfl rfl rfl) rfl rfl (by decide) (by kernel_rfl) ?_
          refine Al_nil ?_
          refine Aw_cond rfl (fun h93 => ?_) (fun h93 => ?_)
          · skip
            have hno : V.rrow s = none := by
              unfold V.rrow
              rw [← hn, ← hp1, if_neg hyes, hw]
              simp only
              rw [← ho, if_neg (by rw [h64]; simp), ← hps, if_neg]
              intro h
              rw [← hcc] at h
              simp only [Bool.and_eq_true] at h
              simp only [Bool.or_eq_true, Bool.not_eq_true'] at h93
              rcases h93 with h2 | h2
              · rw [h.1.1, Bool.true_and, h.1.2] at h2; cases h2
              · rw [h.2] at h2; cases h2
            refine Aw_seq ?_
            refine Aw_region ?_
            refine Al_pu (Pu_build (aa := []) rfl Try.underlying28 Try.zeroValue28 (places28 Try.underlying28) (by kernel_rfl) trivial rfl) rfl rfl (by decide) (by kernel_rfl) ?_
            refine Al_storeN rfl rfl rfl (by kernel_rfl) Try.isAgg28 Try.sizeOf28 rfl rfl rfl rfl (Nat.le_of_ble_eq_true rfl) ?_
            refine Al_pu (Pu_move (.inr rfl) (by conv => lhs; whnf)) rfl rfl (by decide) (by kernel_rfl) ?_
            refine Al_nil ?_
            refine Aw_ret ?_
            exact ⟨2, g2, 0, _, _, _, _, rfl, rfl, rfl, rfl, Sub.rfl, by unfold V.rrowA; rw [hno]⟩ -- ret 3
          · skip
            have hyesc : V.rrow s = some cc := by
              simp only [Bool.or_eq_false_iff, Bool.not_eq_false'] at h93
              unfold V.rrow
              rw [← hn, ← hp1, if_neg hyes, hw]
              simp only
              rw [← ho, if_neg (by rw [h64]; simp), ← hps, if_pos]
              · rw [hcc]
              · rw [← hcc, h93.1, h93.2]; rfl
            refine Aw_skip ?_
            refine Aw_seq ?_
            refine Aw_region ?_
            refine Al_pu (Pu_loadbN (r := [_, _, _]) rfl Try.isAgg28 Try.sizeOf28 rfl rfl rfl rfl) rfl rfl (by decide) (by kernel_rfl) ?_
            refine Al_storeN rfl rfl rfl (by kernel_rfl) Try.isAgg28 Try.sizeOf28 rfl rfl rfl rfl (Nat.le_of_ble_eq_true rfl) ?_
            refine Al_pu (Pu_move (.inr rfl) (by conv => lhs; whnf)) rfl rfl (by decide) (by kernel_rfl) ?_
            refine Al_nil ?_
            refine Aw_ret ?_
            exact ⟨2, g2, 0, _, _, [_, _, _], _, rfl, rfl, rfl, rfl, Sub.rfl, by unfold V.rrowA; rw [hyesc, hcc]; show AV.tup [AV.row [_, _, _], _] = AV.tup [AV.row [_, _, _], _]; rw [← e1, ← e2]; rfl⟩ -- ret 4
end Go.Proofs.Ytocgnmklgklfnaa
