
/- Rows of deps, of the call's own: Clone, Insert. -/
import Derived.Test.YtmbaeloiepjakaaAS
import Derived.Test.YtmbaeloiepjakaaAL
import Derived.Test.YtmbaeloiepjakaaGDat
set_option linter.unusedSimpArgs false
set_option linter.unusedVariables false
namespace Go.Proofs.Ytmbaeloiepjakaa
open Go.RowKit A R
open A.RowT
set_option maxRecDepth 100000 in
theorem cloneD_g (l : List Dep) (hl : l.length ≤ 1000000) : GCall Try.prog 20 [.d (.sl 3 (l.map Dep.row))] [] (some ([(1001, .arr 49 3 (l.map Dep.row))], .ow 1001 0)) := by
  refine GCall_enter (fun _ _ => by kernel_rfl) Try.func20 rfl Try.ntmps20 (ReadsS.r1 Try.results20) (Nat.le_of_ble_eq_true rfl) (fun hok hokB M0 w0 => ?_)
  refine Aw_seq (Aw_region ?_)
  refine Al_p Pu_mvr ?_
  refine Al_nil (Aw_seq (Aw_seq (Aw_region ?_)))
  refine Al_p Pu_mvl ?_
  refine Al_eqnil rfl rfl rfl (by decide) (by kernel_rfl) Try.underlying30 rfl (fun nl hnl => ?_)
  refine Al_nil ?_
  refine Aw_cond rfl (fun h4 => ?_) (fun h4 => ?_)
  · (try simp only [decide_eq_true_eq, decide_eq_false_iff_not, Bool.and_eq_true, Bool.or_eq_true, Bool.and_eq_false_iff, Bool.or_eq_false_iff, Bool.not_eq_true', Bool.not_eq_false', beq_iff_eq, Bool.not_eq_eq_eq_not, Bool.not_true, Bool.not_false, List.length_map, Bool.and_true, Bool.and_false, Bool.false_and, Bool.true_and, Bool.or_false, Bool.false_or] at h4)
    refine Aw_seq (Aw_region ?_)
    refine Al_p Pu_mvr ?_
    refine Al_nil ?_
    obtain rfl : l = [] := by simpa using hnl h4
    refine Aw_own (j := 2) (k := 2) (T := 49) (n := 3) rfl (fun g => ?_)
    refine Aw_ret ?_
    exact ⟨_, _, [(1001, 2, g)], rfl, Sub.rfl, ⟨rfl, trivial⟩, rfl⟩ -- ret 0
  · (try simp only [decide_eq_true_eq, decide_eq_false_iff_not, Bool.and_eq_true, Bool.or_eq_true, Bool.and_eq_false_iff, Bool.or_eq_false_iff, Bool.not_eq_true', Bool.not_eq_false', beq_iff_eq, Bool.not_eq_eq_eq_not, Bool.not_true, Bool.not_false, List.length_map, Bool.and_true, Bool.and_false, Bool.false_and, Bool.true_and, Bool.or_false, Bool.false_or] at h4)
    refine Aw_skip (Aw_seq (Aw_region ?_))
    refine Al_slice0 rfl rfl rfl (by decide) Try.underlying30 Try.sizeOf49 (fun g5 => ?_)
    refine Al_p Pu_mvl ?_
    refine Al_append rfl rfl rfl (by decide) (by kernel_rfl) elem30 (by decide) Try.sizeOf49 rfl rfl rfl (by simp; omega) (by decide) (fun g7 => ?_)
    refine Al_p Pu_mvr ?_
    refine Al_nil ?_
    refine Aw_ret ?_
    exact ⟨_, _, [(1001, 5, g7)], rfl, Sub.rfl, ⟨rfl, trivial⟩, rfl⟩ -- ret 1
theorem ins_grow {α : Type} {L : List α} {z x : α} {i : Nat} (hi : i < L.length) : (((L.take i ++ List.replicate (L.length + 1 - i) z).take i ++ [x].take 1 ++ (L.take i ++ List.replicate (L.length + 1 - i) z).drop (i + 1)).take (i + 1) ++ (L.drop i).take (L.length - i) ++ ((L.take i ++ List.replicate (L.length + 1 - i) z).take i ++ [x].take 1 ++ (L.take i ++ List.replicate (L.length + 1 - i) z).drop (i + 1)).drop (i + 1 + (L.length - i))) = L.take i ++ x :: L.drop i := by
  have h1 : (L.take i).length = i := by simp; omega
  have h2 : (L.take i ++ List.replicate (L.length + 1 - i) z).take i = L.take i := by
    rw [List.take_append_of_le_length (by omega), List.take_of_length_le (by omega)]
  rw [h2]
  have h3 : ((L.take i ++ List.replicate (L.length + 1 - i) z).drop (i + 1)).length = L.length - i := by simp; omega
  generalize (L.take i ++ List.replicate (L.length + 1 - i) z).drop (i + 1) = D at *
  have h4 : (L.take i ++ [x].take 1).length = i + 1 := by simp; omega
  have e1 : (L.take i ++ [x].take 1 ++ D).take (i + 1) = L.take i ++ [x].take 1 := by rw [List.take_append_of_le_length (by omega), List.take_of_length_le (by omega)]
  have e2 : (L.take i ++ [x].take 1 ++ D).drop (i + 1 + (L.length - i)) = [] := List.drop_eq_nil_of_le (by rw [List.length_append, h4, h3]; omega)
  rw [e1, e2, List.take_of_length_le (l := L.drop i) (by simp)]
  simp
theorem ins_room {α : Type} {L : List α} {x : α} {i : Nat} (hi : i < L.length) : ((L.take (i + 1) ++ (L.drop i).take (L.length - i)).take i ++ [x].take 1 ++ (L.take (i + 1) ++ (L.drop i).take (L.length - i)).drop (i + 1)) = L.take i ++ x :: L.drop i := by
  have h1 : (L.take (i + 1)).length = i + 1 := by simp; omega
  rw [List.take_append_of_le_length (by omega), List.take_take, Nat.min_eq_left (by omega), List.drop_append_of_le_length (by omega), List.drop_eq_nil_of_le (by omega), List.take_of_length_le (l := L.drop i) (by simp)]
  simp
instance : Inhabited Dep := ⟨⟨⟨#[]⟩, 0, 0⟩⟩
set_option maxRecDepth 100000 in
theorem bsearchD_a (l : List Dep) (tg : AV) (f : FuncId) (c : Dep → Int) (s : Nat) (hf : ∀ x, ACall Try.prog f [.row x.row, tg] (iv (c x))) (hl : l.length ≤ 1000000) (hs : s ≤ l.length) (hlo : ∀ (j : Nat) (hj : j < l.length), j < s → c l[j] < 0) (hhi : ∀ (j : Nat) (hj : j < l.length), s ≤ j → 0 ≤ c l[j]) : ACall Try.prog 77 [.sl 3 (l.map Dep.row), tg, .fn f []] (.tup [iv s, bv (decide (s < l.length) && decide (c (l.getD s default) = 0))]) := by
  refine ACall_enter2 (fun _ _ => by kernel_rfl) Try.func77 rfl Try.ntmps77 Try.results77 (Nat.le_of_ble_eq_true rfl) (fun hok M0 w0 hnl => ?_)
  refine Aw_seq (Aw_region ?_)
  refine Al_p Pu_mvr ?_
  refine Al_p Pu_mvr ?_
  refine Al_nil (Aw_seq (Aw_region ?_))
  refine Al_p Pu_mvl ?_
  refine Al_p (Pu_len rfl Try.underlying30 rfl (by first | exact List.length_map .. | exact rfl)) ?_
  refine Al_p Pu_mvr ?_
  refine Al_nil (Aw_seq (Aw_region ?_))
  refine Al_p Pu_mvl ?_
  refine Al_p Pu_mvr ?_
  refine Al_p Pu_mvr ?_
  refine Al_nil (Aw_seq (Aw_block ?_))
  refine Aw_loopk (ι := Nat × Nat) [0, 1, 2, 8] [] (fun (a, b) => [(9, .d (iv a)), (10, .d (iv b))]) (fun (a, b) => []) (fun (a, b) => a ≤ s ∧ s ≤ b ∧ b ≤ l.length) (fun (a, b) => b - a) (0, l.length) (⟨Nat.zero_le _, hs, Nat.le_refl _⟩) ⟨Sub.rfl, Sub.num (by simp), trivial⟩ trivial ?_
  rintro ⟨a, b⟩ ⟨ha, hb, hbl⟩
  refine Aw_seq (Aw_seq (Aw_region ?_))
  refine Al_p Pu_mvl ?_
  refine Al_p Pu_mvl ?_
  refine Al_p (Pu_cmp rfl rfl rfl rfl) ?_
  refine Al_nil ?_
  refine Aw_cond rfl (fun h17 => ?_) (fun h17 => ?_)
  · (try simp only [decide_eq_true_eq, decide_eq_false_iff_not, Bool.and_eq_true, Bool.or_eq_true, Bool.and_eq_false_iff, Bool.or_eq_false_iff, Bool.not_eq_true', Bool.not_eq_false', beq_iff_eq, Bool.not_eq_eq_eq_not, Bool.not_true, Bool.not_false, List.length_map, Bool.and_true, Bool.and_false, Bool.false_and, Bool.true_and, Bool.or_false, Bool.false_or] at h17)
    have hm : (a + b) / 2 < l.length := by omega
    refine Aw_skip (Aw_block (Aw_seq (Aw_region ?_)))
    refine Al_p Pu_mvl ?_
    refine Al_p Pu_mvl ?_
    refine Al_p (Pu_add rfl rfl rfl (fun h1 h2 => by simp only [A.inI, A.maxI] at *; omega)) ?_
    refine Al_p (Pu_conv (k' := .u64) (a := ((a + b : Nat) : Int)) rfl Try.underlying3 Try.underlying124 rfl (fun _ => u64_nat (by omega) (by omega))) ?_
    refine Al_p (Pu_int_shr (r := (((a + b) / 2 : Nat) : Int)) rfl rfl rfl ⟨by decide, by decide⟩ (by show (((a + b : Nat) : Int)) / 2 ^ 1 = _; omega) (fun _ => by show 0 ≤ _ ∧ _; omega)) ?_
    refine Al_p (Pu_conv (k' := .i64) rfl Try.underlying124 Try.underlying3 rfl (fun _ => i64_nat (by simp only [A.inI]; omega))) ?_
    refine Al_p Pu_mvr ?_
    refine Al_nil (Aw_seq (Aw_region ?_))
    refine Al_p Pu_mvl ?_
    refine Al_p Pu_mvl ?_
    refine Al_p Pu_mvl ?_
    refine Al_p (Pu_index rfl Try.underlying30 Try.sizeOf49 rfl rfl (rfl) (mapget hm)) ?_
    refine Al_p (Pu_loadN rfl Try.isAgg49 Try.sizeOf49 rfl (Nat.le_of_ble_eq_true rfl)) ?_
    refine Al_p Pu_mvl ?_
    refine Al_p (Pu_callv (aa := [(fun x => .row x.row) (l[(a + b) / 2]'hm), tg]) (caps := []) (hf (l[(a + b) / 2]'hm)) rfl rfl ⟨Sub.rfl, Sub.rfl, trivial⟩) ?_
    refine Al_p (Pu_cmp rfl rfl rfl rfl) ?_
    refine Al_nil ?_
    refine Aw_cond rfl (fun h31 => ?_) (fun h31 => ?_)
    · (try simp only [decide_eq_true_eq, decide_eq_false_iff_not, Bool.and_eq_true, Bool.or_eq_true, Bool.and_eq_false_iff, Bool.or_eq_false_iff, Bool.not_eq_true', Bool.not_eq_false', beq_iff_eq, Bool.not_eq_eq_eq_not, Bool.not_true, Bool.not_false, List.length_map, Bool.and_true, Bool.and_false, Bool.false_and, Bool.true_and, Bool.or_false, Bool.false_or] at h31)
      have hms : (a + b) / 2 < s := by
        rcases Nat.lt_or_ge ((a + b) / 2) s with h | h
        · exact h
        · have := hhi _ hm h; omega
      refine Aw_region ?_
      refine Al_p Pu_mvl ?_
      refine Al_p (Pu_add rfl rfl rfl (fun h1 h2 => by simp only [A.inI, A.maxI] at *; omega)) ?_
      refine Al_p Pu_mvr ?_
      refine Al_nil ?_
      exact ⟨((a + b) / 2 + 1, b), ⟨by omega, hb, hbl⟩, by simp only []; omega, Le.ov ⟨Sub.num (by omega), Sub.rfl, trivial⟩ ⟨Sub.rfl, Sub.rfl, Sub.rfl, Sub.rfl, trivial⟩ trivial trivial⟩ -- loop 0 next.0
    · (try simp only [decide_eq_true_eq, decide_eq_false_iff_not, Bool.and_eq_true, Bool.or_eq_true, Bool.and_eq_false_iff, Bool.or_eq_false_iff, Bool.not_eq_true', Bool.not_eq_false', beq_iff_eq, Bool.not_eq_eq_eq_not, Bool.not_true, Bool.not_false, List.length_map, Bool.and_true, Bool.and_false, Bool.false_and, Bool.true_and, Bool.or_false, Bool.false_or] at h31)
      have hms : s ≤ (a + b) / 2 := by
        rcases Nat.lt_or_ge ((a + b) / 2) s with h | h
        · have := hlo _ hm h; omega
        · exact h
      refine Aw_region ?_
      refine Al_p Pu_mvl ?_
      refine Al_p Pu_mvr ?_
      refine Al_nil ?_
      exact ⟨(a, (a + b) / 2), ⟨ha, hms, by omega⟩, by simp only []; omega, Le.ov ⟨Sub.rfl, Sub.rfl, trivial⟩ ⟨Sub.rfl, Sub.rfl, Sub.rfl, Sub.rfl, trivial⟩ trivial trivial⟩ -- loop 0 next.1
  · (try simp only [decide_eq_true_eq, decide_eq_false_iff_not, Bool.and_eq_true, Bool.or_eq_true, Bool.and_eq_false_iff, Bool.or_eq_false_iff, Bool.not_eq_true', Bool.not_eq_false', beq_iff_eq, Bool.not_eq_eq_eq_not, Bool.not_true, Bool.not_false, List.length_map, Bool.and_true, Bool.and_false, Bool.false_and, Bool.true_and, Bool.or_false, Bool.false_or] at h17)
    obtain rfl : a = s := by omega
    refine Aw_exit (Aw_seq (Aw_region ?_))
    refine Al_p Pu_mvl ?_
    refine Al_p Pu_mvl ?_
    refine Al_p Pu_mvl ?_
    refine Al_p (Pu_cmp rfl rfl rfl rfl) ?_
    refine Al_p Pu_mvl ?_
    refine Al_st (St_gd [] rfl rfl rfl rfl trivial (fun hg40 => by exact Pu_move (.inl rfl) (by conv => lhs; whnf))) rfl (by decide) (by kernel_rfl) (by intro j b oj dj h1 h2 h3; cases h1; cases h2; cases h3; decide) ?_
    refine Al_st (St_gd [] rfl rfl rfl rfl trivial (fun hg41 => by exact Pu_move (.inl rfl) (by conv => lhs; whnf))) rfl (by decide) (by kernel_rfl) (by intro j b oj dj h1 h2 h3; cases h1; cases h2; cases h3; decide) ?_
    refine Al_st (St_gd [] rfl rfl rfl rfl trivial (fun hg42 => by exact Pu_move (.inl rfl) (by conv => lhs; whnf))) rfl (by decide) (by kernel_rfl) (by intro j b oj dj h1 h2 h3; cases h1; cases h2; cases h3; decide) ?_
    refine Al_st (St_gd [41, 42] rfl rfl rfl rfl ⟨⟨_, rfl⟩, ⟨_, rfl⟩, trivial⟩ (fun hg43 => by exact Pu_index rfl Try.underlying30 Try.sizeOf49 rfl rfl (rfl) (mapgetD (d := default) (by simpa using hg43)))) rfl (by decide) (by kernel_rfl) (by intro j b oj dj h1 h2 h3; cases h1; cases h2; cases h3; decide) ?_
    refine Al_st (St_gd [43] rfl rfl rfl rfl ⟨⟨_, rfl⟩, trivial⟩ (fun hg44 => Pu_loadN rfl Try.isAgg49 Try.sizeOf49 rfl (Nat.le_of_ble_eq_true rfl))) rfl (by decide) (by kernel_rfl) (by intro j b oj dj h1 h2 h3; cases h1; cases h2; cases h3; decide) ?_
    refine Al_st (St_gd [] rfl rfl rfl rfl trivial (fun hg45 => by exact Pu_move (.inl rfl) (by conv => lhs; whnf))) rfl (by decide) (by kernel_rfl) (by intro j b oj dj h1 h2 h3; cases h1; cases h2; cases h3; decide) ?_
    refine Al_st (St_gd [40, 44, 45] rfl rfl rfl rfl ⟨⟨_, rfl⟩, ⟨_, rfl⟩, ⟨_, rfl⟩, trivial⟩ (fun hg46 => Pu_callv (aa := [(fun x => .row x.row) (l.getD a default), tg]) (caps := []) (hf (l.getD a default)) rfl rfl ⟨Sub.rfl, Sub.rfl, trivial⟩)) rfl (by decide) (by kernel_rfl) (by intro j b oj dj h1 h2 h3; cases h1; cases h2; cases h3; decide) ?_
    refine Al_st (St_gd [46] rfl rfl rfl rfl ⟨⟨_, rfl⟩, trivial⟩ (fun hg47 => Pu_cmp rfl rfl rfl rfl)) rfl (by decide) (by kernel_rfl) (by intro j b oj dj h1 h2 h3; cases h1; cases h2; cases h3; decide) ?_
    refine Al_p (Pu_and rfl rfl rfl rfl) ?_
    refine Al_p Pu_mvr ?_
    refine Al_p Pu_mvr ?_
    refine Al_nil ?_
    refine Aw_ret ?_
    exact ⟨Sub.num rfl, Sub.bool (by congr 1; exact decide_eq_decide.2 (by simp))⟩ -- ret 0
end Go.Proofs.Ytmbaeloiepjakaa
