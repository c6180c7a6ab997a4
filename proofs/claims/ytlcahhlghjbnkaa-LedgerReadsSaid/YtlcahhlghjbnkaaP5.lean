/- What the proofs need in common, laid together (5 of 5): no condition. -/
import Derived.Test.YtlcahhlghjbnkaaP4
import Derived.Laws.IdiomStrings
import Derived.Laws.BytesArg
set_option linter.unusedSimpArgs false
set_option linter.unusedVariables false
set_option linter.constructorNameAsVariable false

section
namespace Go.Proofs.Ytlcahhlghjbnkaa
open Go Go.RowKit A R
namespace L
abbrev qcs (s : ByteArray) (p : QS) : List AV := [tv s, iv p.1, bv p.2]
theorem qnS_le {s : ByteArray} {most : Nat} {p : QS} (h : p.1 ≤ s.size) : (qnS s most p).1 ≤ s.size := by
  unfold qnS
  split
  · exact V.gotE_le s p.1
  · exact h
theorem rtE_le (s : ByteArray) (at_ most : Nat) : V.rtE s at_ most ≤ s.size := by unfold V.rtE; split <;> omega
theorem stEn_le (s : ByteArray) (at_ : Nat) : V.stEn s at_ ≤ s.size := by unfold V.stEn; split <;> omega
theorem qtS_le {s : ByteArray} {p : QS} (h : p.1 ≤ s.size) : (qtS s p).1 ≤ s.size := by
  unfold qtS
  split
  · exact rtE_le s p.1 32
  · exact h
theorem qsS_le {s : ByteArray} {p : QS} (h : p.1 ≤ s.size) : (qsS s p).1 ≤ s.size := by
  unfold qsS
  split
  · exact stEn_le s p.1
  · exact h
theorem qtV_size (s : ByteArray) (p : QS) : (qtV s p).size ≤ 32 := by
  unfold qtV
  split
  · rename_i h
    unfold V.rtT
    cases hp : V.ptext 32 (s.data.toList.drop p.1) with
    | none => exact Nat.zero_le _
    | some x =>
      obtain ⟨x, t⟩ := x
      have := ((V.ptext_iff (by omega)).1 hp).1
      simp only
      rw [ba_size]; exact this
  · exact Nat.zero_le _
end L
set_option maxRecDepth 100000 in
theorem rqnum_m (s : ByteArray) (p : L.QS) (most : Nat) (hs : s.size ≤ 1000000) (hp : p.1 ≤ s.size) (hm : most ≤ 1000000) : MCall Try.prog 20 51 (L.qcs s p) [uv most] (some (L.qcs s (L.qnS s most p), iv (L.qnV s most p : Nat))) := by
  obtain ⟨pa, bad⟩ := p
  refine MCall_enter (fun _ _ => by kernel_rfl) Try.func20 rfl Try.ntmps20 (Reads.r1 Try.results20) (Nat.le_of_ble_eq_true rfl) (fun hok hokc M0 w0 hlent => ?_)
  refine Aw_seq (Aw_region ?_)
  refine Al_p Pu_mvr ?_
  refine Al_nil (Aw_seq ?_)
  refine Aw_drawA 9 (by kernel_rfl) (by kernel_rfl) rfl rfl rfl rfl (by decide) Try.zeroValue72 rfl (by kernel_rfl) rfl ?_
  refine Dr_p Pu_mvl ?_
  refine Dr_p (Pu_nilb rfl rfl) ?_
  refine Dr_p (Pu_fieldb 0 rfl Try.underlying51 rfl rfl Try.sizeOf9 rfl) ?_
  refine Dr_p (Pu_loadb rfl Try.isAgg9 rfl rfl rfl) ?_
  refine Dr_p Pu_mvl ?_
  refine Dr_p (Pu_nilb rfl rfl) ?_
  refine Dr_p (Pu_fieldb 1 rfl Try.underlying51 rfl rfl Try.sizeOf3 rfl) ?_
  refine Dr_p (Pu_loadb rfl Try.isAgg3 rfl rfl rfl) ?_
  refine Dr_p (Pu_call (rread_a s pa hs hp) rfl ⟨Sub.rfl, Sub.rfl, trivial⟩) ?_
  refine Dr_nil ?_
  intro g5
  refine Al_storeN rfl rfl rfl (by kernel_rfl) Try.isAgg72 Try.sizeOf72 rfl rfl rfl rfl (Nat.le_of_ble_eq_true rfl) ?_
  refine Al_nil (Aw_seq (Aw_seq (Aw_region ?_)))
  refine Al_p Pu_mvl ?_
  refine Al_p (Pu_nilb rfl rfl) ?_
  refine Al_p (Pu_fieldb 2 rfl Try.underlying51 rfl rfl Try.sizeOf4 rfl) ?_
  refine Al_p (Pu_loadb rfl Try.isAgg4 rfl rfl rfl) ?_
  refine Al_p Pu_mvl ?_
  refine Al_st (St_gd [] rfl rfl rfl rfl trivial (fun hg20 => Pu_fieldb 1 rfl Try.underlying72 rfl rfl Try.sizeOf3 rfl)) rfl (by decide) (by kernel_rfl) (by intro j b oj dj h1 h2 h3; cases h1; cases h2; cases h3; decide) ?_
  refine Al_st (St_gd [20] rfl rfl rfl rfl ⟨⟨_, rfl⟩, trivial⟩ (fun hg21 => Pu_loadb rfl Try.isAgg3 rfl rfl rfl)) rfl (by decide) (by kernel_rfl) (by intro j b oj dj h1 h2 h3; cases h1; cases h2; cases h3; decide) ?_
  refine Al_st (St_gd [21] rfl rfl rfl rfl ⟨⟨_, rfl⟩, trivial⟩ (fun hg22 => Pu_cmp rfl rfl rfl rfl)) rfl (by decide) (by kernel_rfl) (by intro j b oj dj h1 h2 h3; cases h1; cases h2; cases h3; decide) ?_
  refine Al_p (Pu_or rfl rfl rfl rfl) ?_
  refine Al_p Pu_mvl ?_
  refine Al_st (St_gd [] rfl rfl rfl rfl trivial (fun hg25 => Pu_fieldb 0 rfl Try.underlying72 rfl rfl Try.sizeOf42 rfl)) rfl (by decide) (by kernel_rfl) (by intro j b oj dj h1 h2 h3; cases h1; cases h2; cases h3; decide) ?_
  refine Al_st (St_gd [25] rfl rfl rfl rfl ⟨⟨_, rfl⟩, trivial⟩ (fun hg26 => Pu_loadb rfl Try.isAgg42 rfl rfl rfl)) rfl (by decide) (by kernel_rfl) (by intro j b oj dj h1 h2 h3; cases h1; cases h2; cases h3; decide) ?_
  refine Al_st (St_gd [] rfl rfl rfl rfl trivial (fun hg27 => by exact Pu_move (.inl rfl) (by conv => lhs; whnf))) rfl (by decide) (by kernel_rfl) (by intro j b oj dj h1 h2 h3; cases h1; cases h2; cases h3; decide) ?_
  refine Al_st (St_gd [26, 27] rfl rfl rfl rfl ⟨⟨_, rfl⟩, ⟨_, rfl⟩, trivial⟩ (fun hg28 => Pu_cmp rfl rfl rfl rfl)) rfl (by decide) (by kernel_rfl) (by intro j b oj dj h1 h2 h3; cases h1; cases h2; cases h3; decide) ?_
  refine Al_p (Pu_or rfl rfl rfl rfl) ?_
  refine Al_nil ?_
  refine Aw_cond rfl (fun h29 => ?_) (fun h29 => ?_)
  · skip
    have hq : L.qok s most (pa, bad) = false := by unfold L.qok; rw [h29]; rfl
    refine Aw_seq (Aw_region ?_)
    refine Al_p Pu_mvl ?_
    refine Al_p (Pu_nilb rfl rfl) ?_
    refine Al_p (Pu_fieldb 2 rfl Try.underlying51 rfl rfl Try.sizeOf4 rfl) ?_
    refine Al_store1 rfl rfl rfl (by kernel_rfl) Try.isAgg4 Try.sizeOf4 rfl rfl (Nat.le_of_ble_eq_true rfl) (by conv => lhs; whnf) rfl ?_
    refine Al_nil (Aw_seq (Aw_region ?_))
    refine Al_p Pu_mvr ?_
    refine Al_nil ?_
    refine Aw_ret ?_
    exact ⟨_, _, rfl, Sub.num (by unfold L.qnV; rw [hq]; rfl), by rw [show L.qnS s most (pa, bad) = (pa, true) from by unfold L.qnS; rw [hq]; rfl]; rfl⟩ -- ret 0
  · skip
    have hq : L.qok s most (pa, bad) = true := by unfold L.qok; rw [h29]; rfl
    have hle : V.gotN s pa ≤ most ∧ bad = false := by
      simp only [Bool.or_eq_false_iff, decide_eq_false_iff_not] at h29
      exact ⟨by omega, h29.1.1⟩
    obtain ⟨hle, rfl⟩ := hle
    refine Aw_skip (Aw_seq (Aw_region ?_))
    refine Al_p Pu_mvl ?_
    refine Al_p (Pu_fieldb 1 rfl Try.underlying72 rfl rfl Try.sizeOf3 rfl) ?_
    refine Al_p (Pu_loadb rfl Try.isAgg3 rfl rfl rfl) ?_
    refine Al_p (Pu_nilb rfl rfl) ?_
    refine Al_p (Pu_fieldb 1 rfl Try.underlying51 rfl rfl Try.sizeOf3 rfl) ?_
    refine Al_store1 rfl rfl rfl (by kernel_rfl) Try.isAgg3 Try.sizeOf3 rfl rfl (Nat.le_of_ble_eq_true rfl) (by conv => lhs; whnf) rfl ?_
    refine Al_nil (Aw_seq (Aw_region ?_))
    refine Al_p (Pu_fieldb 0 rfl Try.underlying72 rfl rfl Try.sizeOf42 rfl) ?_
    refine Al_p (Pu_loadb rfl Try.isAgg42 rfl rfl rfl) ?_
    refine Al_p (Pu_conv rfl Try.underlying42 Try.underlying3 rfl (fun hv => i64_nat (by simp only [A.inI]; omega))) ?_
    refine Al_p Pu_mvr ?_
    refine Al_nil ?_
    refine Aw_ret ?_
    exact ⟨_, _, rfl, Sub.num (by unfold L.qnV; rw [hq]; rfl), by rw [show L.qnS s most (pa, false) = (V.gotE s pa, false) from by unfold L.qnS; rw [hq]; rfl]; rfl⟩ -- ret 1
set_option maxRecDepth 100000 in
theorem rqtext_m (s : ByteArray) (p : L.QS) (hs : s.size ≤ 1000000) (hp : p.1 ≤ s.size) : MCall Try.prog 21 51 (L.qcs s p) [] (some (L.qcs s (L.qtS s p), tv (L.qtV s p))) := by
  obtain ⟨pa, bad⟩ := p
  refine MCall_enter (fun _ _ => by kernel_rfl) Try.func21 rfl Try.ntmps21 (Reads.r1 Try.results21) (Nat.le_of_ble_eq_true rfl) (fun hok hokc M0 w0 hlent => ?_)
  refine Aw_seq (Aw_region ?_)
  refine Al_p Pu_mvr ?_
  refine Al_nil (Aw_seq ?_)
  refine Aw_drawA 9 (by kernel_rfl) (by kernel_rfl) rfl rfl rfl rfl (by decide) Try.zeroValue75 rfl (by kernel_rfl) rfl ?_
  refine Dr_p Pu_mvl ?_
  refine Dr_p (Pu_nilb rfl rfl) ?_
  refine Dr_p (Pu_fieldb 0 rfl Try.underlying51 rfl rfl Try.sizeOf9 rfl) ?_
  refine Dr_p (Pu_loadb rfl Try.isAgg9 rfl rfl rfl) ?_
  refine Dr_p Pu_mvl ?_
  refine Dr_p (Pu_nilb rfl rfl) ?_
  refine Dr_p (Pu_fieldb 1 rfl Try.underlying51 rfl rfl Try.sizeOf3 rfl) ?_
  refine Dr_p (Pu_loadb rfl Try.isAgg3 rfl rfl rfl) ?_
  refine Dr_p (Pu_call (rreadtext_a s pa 32 hs hp (by omega)) rfl ⟨Sub.rfl, Sub.rfl, Sub.rfl, trivial⟩) ?_
  refine Dr_nil ?_
  intro g3
  refine Al_storeN rfl rfl rfl (by kernel_rfl) Try.isAgg75 Try.sizeOf75 rfl rfl rfl rfl (Nat.le_of_ble_eq_true rfl) ?_
  refine Al_nil (Aw_seq (Aw_seq (Aw_region ?_)))
  refine Al_p Pu_mvl ?_
  refine Al_p (Pu_nilb rfl rfl) ?_
  refine Al_p (Pu_fieldb 2 rfl Try.underlying51 rfl rfl Try.sizeOf4 rfl) ?_
  refine Al_p (Pu_loadb rfl Try.isAgg4 rfl rfl rfl) ?_
  refine Al_p Pu_mvl ?_
  refine Al_st (St_gd [] rfl rfl rfl rfl trivial (fun hg18 => Pu_fieldb 1 rfl Try.underlying75 rfl rfl Try.sizeOf3 rfl)) rfl (by decide) (by kernel_rfl) (by intro j b oj dj h1 h2 h3; cases h1; cases h2; cases h3; decide) ?_
  refine Al_st (St_gd [18] rfl rfl rfl rfl ⟨⟨_, rfl⟩, trivial⟩ (fun hg19 => Pu_loadb rfl Try.isAgg3 rfl rfl rfl)) rfl (by decide) (by kernel_rfl) (by intro j b oj dj h1 h2 h3; cases h1; cases h2; cases h3; decide) ?_
  refine Al_st (St_gd [19] rfl rfl rfl rfl ⟨⟨_, rfl⟩, trivial⟩ (fun hg20 => Pu_cmp rfl rfl rfl rfl)) rfl (by decide) (by kernel_rfl) (by intro j b oj dj h1 h2 h3; cases h1; cases h2; cases h3; decide) ?_
  refine Al_p (Pu_or rfl rfl rfl rfl) ?_
  refine Al_nil ?_
  refine Aw_cond rfl (fun h21 => ?_) (fun h21 => ?_)
  · skip
    have hq : L.qtok s (pa, bad) = false := by unfold L.qtok; rw [h21]; rfl
    refine Aw_seq (Aw_region ?_)
    refine Al_p Pu_mvl ?_
    refine Al_p (Pu_nilb rfl rfl) ?_
    refine Al_p (Pu_fieldb 2 rfl Try.underlying51 rfl rfl Try.sizeOf4 rfl) ?_
    refine Al_store1 rfl rfl rfl (by kernel_rfl) Try.isAgg4 Try.sizeOf4 rfl rfl (Nat.le_of_ble_eq_true rfl) (by conv => lhs; whnf) rfl ?_
    refine Al_nil (Aw_seq (Aw_region ?_))
    refine Al_p Pu_mvr ?_
    refine Al_nil ?_
    refine Aw_ret ?_
    exact ⟨_, _, rfl, Sub.str (by unfold L.qtV; rw [hq]; rfl), by rw [show L.qtS s (pa, bad) = (pa, true) from by unfold L.qtS; rw [hq]; rfl]; rfl⟩ -- ret 0
  · skip
    have hq : L.qtok s (pa, bad) = true := by unfold L.qtok; rw [h21]; rfl
    have hle : bad = false := by
      simp only [Bool.or_eq_false_iff] at h21
      exact h21.1
    subst hle
    refine Aw_skip (Aw_seq (Aw_region ?_))
    refine Al_p Pu_mvl ?_
    refine Al_p (Pu_fieldb 1 rfl Try.underlying75 rfl rfl Try.sizeOf3 rfl) ?_
    refine Al_p (Pu_loadb rfl Try.isAgg3 rfl rfl rfl) ?_
    refine Al_p (Pu_nilb rfl rfl) ?_
    refine Al_p (Pu_fieldb 1 rfl Try.underlying51 rfl rfl Try.sizeOf3 rfl) ?_
    refine Al_store1 rfl rfl rfl (by kernel_rfl) Try.isAgg3 Try.sizeOf3 rfl rfl (Nat.le_of_ble_eq_true rfl) (by conv => lhs; whnf) rfl ?_
    refine Al_nil (Aw_seq (Aw_region ?_))
    refine Al_p (Pu_fieldb 0 rfl Try.underlying75 rfl rfl Try.sizeOf9 rfl) ?_
    refine Al_p (Pu_loadb rfl Try.isAgg9 rfl rfl rfl) ?_
    refine Al_p Pu_mvr ?_
    refine Al_nil ?_
    refine Aw_ret ?_
    exact ⟨_, _, rfl, Sub.str (by unfold L.qtV; rw [hq]; rfl), by rw [show L.qtS s (pa, false) = (V.rtE s pa 32, false) from by unfold L.qtS; rw [hq]; rfl]; rfl⟩ -- ret 1
set_option maxRecDepth 100000 in
theorem rqstamp_m (s : ByteArray) (p : L.QS) (hs : s.size ≤ 1000000) (hp : p.1 ≤ s.size) : MCall Try.prog 22 51 (L.qcs s p) [] (some (L.qcs s (L.qsS s p), .row [iv (L.qsN s p : Nat), iv (L.qsI s p : Nat)])) := by
  obtain ⟨pa, bad⟩ := p
  refine MCall_enter (fun _ _ => by kernel_rfl) Try.func22 rfl Try.ntmps22 (Reads.cN Try.results22 Try.isAgg34 Try.sizeOf34) (Nat.le_of_ble_eq_true rfl) (fun hok hokc M0 w0 hlent => ?_)
  refine Aw_seq (Aw_region ?_)
  refine Al_alloc rfl rfl rfl (by decide) Try.zeroValue34 rfl (by kernel_rfl) (fun g2 => ?_)
  refine Al_nil (Aw_seq ?_)
  refine Aw_drawA 9 (by kernel_rfl) (by kernel_rfl) rfl rfl rfl rfl (by decide) Try.zeroValue78 rfl (by kernel_rfl) rfl ?_
  refine Dr_p Pu_mvl ?_
  refine Dr_p (Pu_nilb rfl rfl) ?_
  refine Dr_p (Pu_fieldb 0 rfl Try.underlying51 rfl rfl Try.sizeOf9 rfl) ?_
  refine Dr_p (Pu_loadb rfl Try.isAgg9 rfl rfl rfl) ?_
  refine Dr_p Pu_mvl ?_
  refine Dr_p (Pu_nilb rfl rfl) ?_
  refine Dr_p (Pu_fieldb 1 rfl Try.underlying51 rfl rfl Try.sizeOf3 rfl) ?_
  refine Dr_p (Pu_loadb rfl Try.isAgg3 rfl rfl rfl) ?_
  refine Dr_p (Pu_call (rstread_a s pa hs hp) rfl ⟨Sub.rfl, Sub.rfl, trivial⟩) ?_
  refine Dr_nil ?_
  intro g3
  refine Al_storeN rfl rfl rfl (by kernel_rfl) Try.isAgg78 Try.sizeOf78 rfl rfl rfl rfl (Nat.le_of_ble_eq_true rfl) ?_
  refine Al_nil (Aw_seq (Aw_seq (Aw_region ?_)))
  refine Al_p Pu_mvl ?_
  refine Al_p (Pu_nilb rfl rfl) ?_
  refine Al_p (Pu_fieldb 2 rfl Try.underlying51 rfl rfl Try.sizeOf4 rfl) ?_
  refine Al_p (Pu_loadb rfl Try.isAgg4 rfl rfl rfl) ?_
  refine Al_p Pu_mvl ?_
  refine Al_st (St_gd [] rfl rfl rfl rfl trivial (fun hg18 => Pu_fieldb 2 rfl Try.underlying78 rfl rfl Try.sizeOf3 rfl)) rfl (by decide) (by kernel_rfl) (by intro j b oj dj h1 h2 h3; cases h1; cases h2; cases h3; decide) ?_
  refine Al_st (St_gd [18] rfl rfl rfl rfl ⟨⟨_, rfl⟩, trivial⟩ (fun hg19 => Pu_loadb rfl Try.isAgg3 rfl rfl rfl)) rfl (by decide) (by kernel_rfl) (by intro j b oj dj h1 h2 h3; cases h1; cases h2; cases h3; decide) ?_
  refine Al_st (St_gd [19] rfl rfl rfl rfl ⟨⟨_, rfl⟩, trivial⟩ (fun hg20 => Pu_cmp rfl rfl rfl rfl)) rfl (by decide) (by kernel_rfl) (by intro j b oj dj h1 h2 h3; cases h1; cases h2; cases h3; decide) ?_
  refine Al_p (Pu_or rfl rfl rfl rfl) ?_
  refine Al_nil ?_
  refine Aw_cond rfl (fun h21 => ?_) (fun h21 => ?_)
  · skip
    have hq : L.qsok s (pa, bad) = false := by unfold L.qsok; rw [h21]; rfl
    refine Aw_seq (Aw_region ?_)
    refine Al_p Pu_mvl ?_
    refine Al_p (Pu_nilb rfl rfl) ?_
    refine Al_p (Pu_fieldb 2 rfl Try.underlying51 rfl rfl Try.sizeOf4 rfl) ?_
    refine Al_store1 rfl rfl rfl (by kernel_rfl) Try.isAgg4 Try.sizeOf4 rfl rfl (Nat.le_of_ble_eq_true rfl) (by conv => lhs; whnf) rfl ?_
    refine Al_nil (Aw_seq (Aw_region ?_))
    refine Al_p (Pu_build (aa := []) rfl Try.underlying34 Try.zeroValue34 (places34 Try.underlying34) (by kernel_rfl) trivial rfl) ?_
    refine Al_storeN rfl rfl rfl (by kernel_rfl) Try.isAgg34 Try.sizeOf34 rfl rfl rfl rfl (Nat.le_of_ble_eq_true rfl) ?_
    refine Al_nil ?_
    refine Aw_ret ?_
    exact ⟨_, _, rfl, ⟨_, _, _, _, _, [_, _], rfl, rfl, rfl, rfl, by rw [show L.qsN s (pa, bad) = 0 from by unfold L.qsN; rw [hq]; rfl, show L.qsI s (pa, bad) = 0 from by unfold L.qsI; rw [hq]; rfl]; rfl⟩, by rw [show L.qsS s (pa, bad) = (pa, true) from by unfold L.qsS; rw [hq]; rfl]; rfl⟩ -- ret 0
  · skip
    have hq : L.qsok s (pa, bad) = true := by unfold L.qsok; rw [h21]; rfl
    have hle : bad = false := by
      simp only [Bool.or_eq_false_iff] at h21
      exact h21.1
    subst hle
    refine Aw_skip (Aw_seq (Aw_region ?_))
    refine Al_p Pu_mvl ?_
    refine Al_p (Pu_fieldb 2 rfl Try.underlying78 rfl rfl Try.sizeOf3 rfl) ?_
    refine Al_p (Pu_loadb rfl Try.isAgg3 rfl rfl rfl) ?_
    refine Al_p (Pu_nilb rfl rfl) ?_
    refine Al_p (Pu_fieldb 1 rfl Try.underlying51 rfl rfl Try.sizeOf3 rfl) ?_
    refine Al_store1 rfl rfl rfl (by kernel_rfl) Try.isAgg3 Try.sizeOf3 rfl rfl (Nat.le_of_ble_eq_true rfl) (by conv => lhs; whnf) rfl ?_
    refine Al_nil (Aw_seq (Aw_region ?_))
    refine Al_p (Pu_fieldb 0 rfl Try.underlying78 rfl rfl Try.sizeOf34 rfl) ?_
    refine Al_p (Pu_loadbN (r := [_, _]) rfl Try.isAgg34 Try.sizeOf34 rfl rfl rfl rfl) ?_
    refine Al_storeN rfl rfl rfl (by kernel_rfl) Try.isAgg34 Try.sizeOf34 rfl rfl rfl rfl (Nat.le_of_ble_eq_true rfl) ?_
    refine Al_nil ?_
    refine Aw_ret ?_
    exact ⟨_, _, rfl, ⟨_, _, _, _, _, [_, _], rfl, rfl, rfl, rfl, by rw [show L.qsN s (pa, false) = V.stN s pa from by unfold L.qsN; rw [hq]; rfl, show L.qsI s (pa, false) = V.stI s pa from by unfold L.qsI; rw [hq]; rfl]⟩, by rw [show L.qsS s (pa, false) = (V.stEn s pa, false) from by unfold L.qsS; rw [hq]; rfl]; rfl⟩ -- ret 1
namespace L
theorem qmore_end {s : ByteArray} {n i : Nat} {p : QS} (h : ¬ (i < n ∧ p.2 = false)) (hi : i ≤ n) : qmore s (n - i) p = ([], p) := by
  by_cases hin : i < n
  · have hb : p.2 = true := by
      cases hb : p.2 with
      | true => rfl
      | false => exact (h ⟨hin, hb⟩).elim
    exact qmore_bad s _ p hb
  · rw [show n - i = 0 from by omega]; rfl
theorem qless_end {s : ByteArray} {n i : Nat} {p : QS} (h : ¬ (i < n ∧ p.2 = false)) (hi : i ≤ n) : qless s (n - i) p = ([], p) := by
  by_cases hin : i < n
  · have hb : p.2 = true := by
      cases hb : p.2 with
      | true => rfl
      | false => exact (h ⟨hin, hb⟩).elim
    rw [show n - i = (n - i - 1) + 1 from by omega, qless, if_pos hb]
  · rw [show n - i = 0 from by omega]; rfl
theorem qmore_step {s : ByteArray} {n i : Nat} {p : QS} (h : i < n) (hb : p.2 = false) : qmore s (n - i) p = (qdep s p :: (qmore s (n - (i + 1)) (qsS s (qtS s p))).1, (qmore s (n - (i + 1)) (qsS s (qtS s p))).2) := by
  rw [show n - i = (n - (i + 1)) + 1 from by omega, qmore, hb, if_neg (by simp)]
theorem qless_step {s : ByteArray} {n i : Nat} {p : QS} (h : i < n) (hb : p.2 = false) : qless s (n - i) p = (⟨qtV s p, 0, 0⟩ :: (qless s (n - (i + 1)) (qtS s p)).1, (qless s (n - (i + 1)) (qtS s p)).2) := by
  rw [show n - i = (n - (i + 1)) + 1 from by omega, qless, hb, if_neg (by simp)]
theorem qmore_fit {s : ByteArray} : ∀ (k : Nat) (p : QS), p.1 ≤ s.size → (qmore s k p).1.length ≤ k ∧ (qmore s k p).2.1 ≤ s.size ∧ ∀ d ∈ (qmore s k p).1, d.key.size ≤ 32
  | 0, p, h => ⟨Nat.le_refl _, h, fun d hd => by cases hd⟩
  | k + 1, p, h => by
    rw [qmore]
    split
    · exact ⟨Nat.zero_le _, h, fun d hd => by cases hd⟩
    · obtain ⟨h1, h2, h3⟩ := qmore_fit k (qsS s (qtS s p)) (qsS_le (qtS_le h))
      refine ⟨by simp; omega, h2, fun d hd => ?_⟩
      rcases List.mem_cons.1 hd with rfl | hd
      · exact qtV_size s p
      · exact h3 d hd
theorem qless_fit {s : ByteArray} : ∀ (k : Nat) (p : QS), p.1 ≤ s.size → (qless s k p).1.length ≤ k ∧ (qless s k p).2.1 ≤ s.size
  | 0, p, h => ⟨Nat.le_refl _, h⟩
  | k + 1, p, h => by
    rw [qless]
    split
    · exact ⟨Nat.zero_le _, h⟩
    · obtain ⟨h1, h2⟩ := qless_fit k (qtS s p) (qtS_le h)
      exact ⟨by simp; omega, h2⟩
theorem qA_fit {s : ByteArray} {p : QS} (h : p.1 ≤ s.size) : (qA s p).1.length ≤ 64 ∧ (qA s p).2.1 ≤ s.size ∧ ∀ d ∈ (qA s p).1, d.key.size ≤ 32 := by
  obtain ⟨h1, h2, h3⟩ := qmore_fit (s := s) (qnV s 64 p) (qnS s 64 p) (qnS_le h)
  have := qnV_le s 64 p
  exact ⟨Nat.le_trans h1 this, h2, h3⟩
theorem qB_fit {s : ByteArray} {p : QS} (h : p.1 ≤ s.size) : (qB s p).1.length ≤ 64 ∧ (qB s p).2.1 ≤ s.size := by
  obtain ⟨h1, h2⟩ := qless_fit (s := s) (qnV s 64 (qA s p).2) (qnS s 64 (qA s p).2) (qnS_le (qA_fit h).2.1)
  have := qnV_le s 64 (qA s p).2
  exact ⟨Nat.le_trans h1 this, h2⟩
theorem adds_len : ∀ (ds p : List Dep), (ds.foldl D.add p).length ≤ p.length + ds.length
  | [], p => Nat.le_refl _
  | d :: r, p => by
    have h1 := adds_len r (D.add p d)
    have h2 := D.add_len p d
    rw [List.foldl_cons]; simp; omega
theorem adds_mem : ∀ (ds p : List Dep) (x : Dep), x ∈ ds.foldl D.add p → x ∈ p ∨ x ∈ ds
  | [], p, x, h => .inl h
  | d :: r, p, x, h => by
    rcases adds_mem r (D.add p d) x h with h | h
    · rcases D.add_mem p d x h with h | rfl
      · exact .inl h
      · exact .inr (List.mem_cons_self ..)
    · exact .inr (List.mem_cons_of_mem _ h)
theorem qseen_fit {s : ByteArray} {p : QS} (h : p.1 ≤ s.size) {ahead : List Dep} (ha : ∀ d ∈ ahead, d.key.size ≤ 32) : (qseen s ahead p).length ≤ ahead.length + 64 ∧ ∀ d ∈ qseen s ahead p, d.key.size ≤ 32 := by
  obtain ⟨h1, _, h3⟩ := qA_fit h
  unfold qseen seenOf
  have hk : (kept (qA s p).1 (qB s p).1 ahead).length ≤ ahead.length := List.length_filter_le _ _
  have l1 := adds_len (kept (qA s p).1 (qB s p).1 ahead) []
  have l2 := adds_len (qA s p).1 ((kept (qA s p).1 (qB s p).1 ahead).foldl D.add [])
  refine ⟨by simp at l1; omega, fun d hd => ?_⟩
  rcases adds_mem _ _ d hd with hd | hd
  · rcases adds_mem _ _ d hd with hd | hd
    · cases hd
    · exact ha d (List.mem_filter.1 hd).1
  · exact h3 d hd
end L
set_option maxRecDepth 100000 in
set_option maxHeartbeats 2000000 in
theorem rqseen_m (s : ByteArray) (p : L.QS) (ahead : List Dep) (hs : s.size ≤ 1000000) (hp : p.1 ≤ s.size) (hal : ahead.length ≤ 500000) : MCall Try.prog 23 51 (L.qcs s p) [.sl 3 (ahead.map Dep.row)] (some (L.qcs s (L.qB s p).2, .sl 3 ((L.qseen s ahead p).map Dep.row))) := by
  refine MCall_enter (fun _ _ => by kernel_rfl) Try.func23 rfl Try.ntmps23 (Reads.r1 Try.results23) (Nat.le_of_ble_eq_true rfl) (fun hok hokc M0 w0 hlent => ?_)
  have hn1 := L.qnV_le s 64 p
  have hn2 := L.qnV_le s 64 (L.qA s p).2
  obtain ⟨hA1, hA2, hA3⟩ := L.qA_fit (s := s) hp
  obtain ⟨hB1, hB2⟩ := L.qB_fit (s := s) hp
  refine Aw_seq (Aw_region ?_)
  refine Al_p Pu_mvr ?_
  refine Al_nil (Aw_seq (Aw_region ?_))
  refine Al_p Pu_mvr ?_
  refine Al_nil (Aw_seq (Aw_region ?_))
  refine Al_p Pu_mvl ?_
  refine Al_mcall (rqnum_m s p 64 hs hp (by omega)) rfl rfl rfl (by decide) (by kernel_rfl) rfl rfl ⟨Sub.rfl, trivial⟩ ?_
  refine Al_p Pu_mvr ?_
  refine Al_nil (Aw_seq (Aw_seq (Aw_region ?_)))
  refine Al_p Pu_mvr ?_
  refine Al_nil (Aw_block ?_)
  refine Aw_own (j := 5) (k := 5) (T := 61) (n := 3) rfl (fun g0 => ?_)
  refine Aw_loopk (ι := Nat × (List Dep) × L.QS × Nat) [0, 1, 6] [] (fun (i, out, pp, g) => [(7, .d (iv i)), (5, .ow 5 g)]) (fun (i, out, pp, g) => [(5, g, .arr 61 3 (out.map Dep.row)), (1000, 0, .box 51 ((L.qcs s pp).map .d))]) (fun (i, out, pp, g) => i ≤ L.qnV s 64 p ∧ out.length = i ∧ pp.1 ≤ s.size ∧ out ++ (L.qmore s (L.qnV s 64 p - i) pp).1 = (L.qA s p).1 ∧ (L.qmore s (L.qnV s 64 p - i) pp).2 = (L.qA s p).2) (fun (i, out, pp, g) => L.qnV s 64 p - i) (0, [], L.qnS s 64 p, g0) (⟨Nat.zero_le _, rfl, L.qnS_le hp, rfl, rfl⟩) ⟨Sub.rfl, Sub.rfl, trivial⟩ ⟨rfl, rfl, trivial⟩ ?_
  rintro ⟨i, out, pp, g⟩ ⟨hi, hol, hpp, ho1, ho2⟩
  refine Aw_seq (Aw_seq (Aw_region ?_))
  refine Al_p Pu_mvl ?_
  refine Al_p Pu_mvl ?_
  refine Al_p (Pu_cmp rfl rfl rfl rfl) ?_
  refine Al_p Pu_mvl ?_
  refine Al_st (St_gd [] rfl rfl rfl rfl trivial (fun hg23 => by exact Pu_move (.inl rfl) (by conv => lhs; whnf))) rfl (by decide) (by kernel_rfl) (by intro j b oj dj h1 h2 h3; cases h1; cases h2; cases h3; decide) ?_
  refine Al_st (St_gd [23] rfl rfl rfl rfl ⟨⟨_, rfl⟩, trivial⟩ (fun hg24 => Pu_nilb rfl rfl)) rfl (by decide) (by kernel_rfl) (by intro j b oj dj h1 h2 h3; cases h1; cases h2; cases h3; decide) ?_
  refine Al_st (St_gd [24] rfl rfl rfl rfl ⟨⟨_, rfl⟩, trivial⟩ (fun hg25 => Pu_fieldb 2 rfl Try.underlying51 rfl rfl Try.sizeOf4 rfl)) rfl (by decide) (by kernel_rfl) (by intro j b oj dj h1 h2 h3; cases h1; cases h2; cases h3; decide) ?_
  refine Al_st (St_gd [25] rfl rfl rfl rfl ⟨⟨_, rfl⟩, trivial⟩ (fun hg26 => Pu_loadb rfl Try.isAgg4 rfl rfl rfl)) rfl (by decide) (by kernel_rfl) (by intro j b oj dj h1 h2 h3; cases h1; cases h2; cases h3; decide) ?_
  refine Al_st (St_gd [26] rfl rfl rfl rfl ⟨⟨_, rfl⟩, trivial⟩ (fun hg27 => Pu_not rfl rfl)) rfl (by decide) (by kernel_rfl) (by intro j b oj dj h1 h2 h3; cases h1; cases h2; cases h3; decide) ?_
  refine Al_p (Pu_and rfl rfl rfl rfl) ?_
  refine Al_nil ?_
  refine Aw_cond rfl (fun h28 => ?_) (fun h28 => ?_)
  · (try simp only [decide_eq_true_eq, decide_eq_false_iff_not, Bool.and_eq_true, Bool.or_eq_true, Bool.and_eq_false_iff, Bool.or_eq_false_iff, Bool.not_eq_true', Bool.not_eq_false', beq_iff_eq, Bool.not_eq_eq_eq_not, Bool.not_true, Bool.not_false, List.length_map, Bool.and_true, Bool.and_false, Bool.false_and, Bool.true_and, Bool.or_false, Bool.false_or] at h28)
    have hst := L.qmore_step (s := s) (p := pp) (show i < L.qnV s 64 p by omega) h28.2
    refine Aw_skip (Aw_seq (Aw_block (Aw_seq (Aw_region ?_))))
    refine Al_p Pu_mvl ?_
    refine Al_mcall (rqtext_m s pp hs hpp) rfl rfl rfl (by decide) (by kernel_rfl) rfl rfl trivial ?_
    refine Al_p Pu_mvr ?_
    refine Al_nil (Aw_region ?_)
    refine Al_p Pu_mvl ?_
    refine Al_p Pu_mvl ?_
    refine Al_p Pu_mvl ?_
    refine Al_mcall (rqstamp_m s (L.qtS s pp) hs (L.qtS_le hpp)) rfl rfl rfl (by decide) (by kernel_rfl) rfl rfl trivial ?_
    refine Al_p (Pu_build (aa := [(0, _), (1, _)]) rfl Try.underlying61 Try.zeroValue61 (places61 Try.underlying61) (by kernel_rfl) ⟨rfl, rfl, rfl, rfl, rfl, rfl, trivial⟩ rfl) ?_
    refine Al_p (Pu_slice1 rfl Try.underlying35 Try.sizeOf61 Try.zeroValue61 rfl (by decide) (by decide) (by kernel_rfl) rfl rfl rfl) ?_
    refine Al_append rfl rfl rfl (by decide) (by kernel_rfl) elem35 (by decide) Try.sizeOf61 rfl rfl rfl (by simp; omega) (by decide) (fun g39 => ?_)
    refine Al_p Pu_mvr ?_
    refine Al_nil (Aw_region ?_)
    refine Al_p Pu_mvl ?_
    refine Al_p (Pu_add rfl rfl rfl (fun h1 h2 => by simp only [A.inI, A.maxI] at *; omega)) ?_
    refine Al_p Pu_mvr ?_
    refine Al_nil ?_
    exact ⟨(i + 1, out ++ [L.qdep s pp], L.qsS s (L.qtS s pp), g39), ⟨by omega, by simp [hol], L.qsS_le (L.qtS_le hpp), by rw [← ho1, hst, List.append_assoc]; rfl, by rw [← ho2, hst]⟩, by simp only []; omega, Le.ov ⟨Sub.num (by omega), Sub.rfl, trivial⟩ ⟨Sub.rfl, Sub.rfl, Sub.rfl, trivial⟩ ⟨obeq (by rw [List.map_append]; rfl), rfl, trivial⟩ trivial⟩ -- loop 0 next.0
  · (try simp only [decide_eq_true_eq, decide_eq_false_iff_not, Bool.and_eq_true, Bool.or_eq_true, Bool.and_eq_false_iff, Bool.or_eq_false_iff, Bool.not_eq_true', Bool.not_eq_false', beq_iff_eq, Bool.not_eq_eq_eq_not, Bool.not_true, Bool.not_false, List.length_map, Bool.and_true, Bool.and_false, Bool.false_and, Bool.true_and, Bool.or_false, Bool.false_or] at h28)
    have hen := L.qmore_end (s := s) (n := L.qnV s 64 p) (i := i) (p := pp) (fun hc => h28.elim (fun h => h (by omega)) fun h => by rw [h] at hc; cases hc.2) hi
    rw [hen] at ho1 ho2
    obtain rfl : out = (L.qA s p).1 := by simpa using ho1
    obtain rfl : pp = (L.qA s p).2 := ho2
    refine Aw_exit (Aw_seq ?_)
    refine Aw_frzM hlent (k := 5) [5] rfl rfl rfl ⟨rfl, trivial⟩ ?_
    refine Aw_region ?_
    refine Al_p Pu_mvr ?_
    refine Al_nil (Aw_seq (Aw_region ?_))
    refine Al_p Pu_mvl ?_
    refine Al_mcall (rqnum_m s (L.qA s p).2 64 hs hA2 (by omega)) rfl rfl rfl (by decide) (by kernel_rfl) rfl rfl ⟨Sub.rfl, trivial⟩ ?_
    refine Al_p Pu_mvr ?_
    refine Al_nil (Aw_seq (Aw_seq (Aw_region ?_)))
    refine Al_p Pu_mvr ?_
    refine Al_nil (Aw_block ?_)
    refine Aw_own (j := 9) (k := 9) (T := 61) (n := 3) rfl (fun g0 => ?_)
    refine Aw_loopk (ι := Nat × (List Dep) × L.QS × Nat) [0, 1, 5, 10] [] (fun (i, out, pp, g) => [(11, .d (iv i)), (9, .ow 9 g)]) (fun (i, out, pp, g) => [(9, g, .arr 61 3 (out.map Dep.row)), (1000, 0, .box 51 ((L.qcs s pp).map .d))]) (fun (i, out, pp, g) => i ≤ L.qnV s 64 (L.qA s p).2 ∧ out.length = i ∧ pp.1 ≤ s.size ∧ out ++ (L.qless s (L.qnV s 64 (L.qA s p).2 - i) pp).1 = (L.qB s p).1 ∧ (L.qless s (L.qnV s 64 (L.qA s p).2 - i) pp).2 = (L.qB s p).2) (fun (i, out, pp, g) => L.qnV s 64 (L.qA s p).2 - i) (0, [], L.qnS s 64 (L.qA s p).2, g0) (⟨Nat.zero_le _, rfl, L.qnS_le hA2, rfl, rfl⟩) ⟨Sub.rfl, Sub.rfl, trivial⟩ ⟨rfl, rfl, trivial⟩ ?_
    rintro ⟨i, out, pp, g⟩ ⟨hi, hol, hpp, ho1, ho2⟩
    refine Aw_seq (Aw_seq (Aw_region ?_))
    refine Al_p Pu_mvl ?_
    refine Al_p Pu_mvl ?_
    refine Al_p (Pu_cmp rfl rfl rfl rfl) ?_
    refine Al_p Pu_mvl ?_
    refine Al_st (St_gd [] rfl rfl rfl rfl trivial (fun hg46 => by exact Pu_move (.inl rfl) (by conv => lhs; whnf))) rfl (by decide) (by kernel_rfl) (by intro j b oj dj h1 h2 h3; cases h1; cases h2; cases h3; decide) ?_
    refine Al_st (St_gd [46] rfl rfl rfl rfl ⟨⟨_, rfl⟩, trivial⟩ (fun hg47 => Pu_nilb rfl rfl)) rfl (by decide) (by kernel_rfl) (by intro j b oj dj h1 h2 h3; cases h1; cases h2; cases h3; decide) ?_
    refine Al_st (St_gd [47] rfl rfl rfl rfl ⟨⟨_, rfl⟩, trivial⟩ (fun hg48 => Pu_fieldb 2 rfl Try.underlying51 rfl rfl Try.sizeOf4 rfl)) rfl (by decide) (by kernel_rfl) (by intro j b oj dj h1 h2 h3; cases h1; cases h2; cases h3; decide) ?_
    refine Al_st (St_gd [48] rfl rfl rfl rfl ⟨⟨_, rfl⟩, trivial⟩ (fun hg49 => Pu_loadb rfl Try.isAgg4 rfl rfl rfl)) rfl (by decide) (by kernel_rfl) (by intro j b oj dj h1 h2 h3; cases h1; cases h2; cases h3; decide) ?_
    refine Al_st (St_gd [49] rfl rfl rfl rfl ⟨⟨_, rfl⟩, trivial⟩ (fun hg50 => Pu_not rfl rfl)) rfl (by decide) (by kernel_rfl) (by intro j b oj dj h1 h2 h3; cases h1; cases h2; cases h3; decide) ?_
    refine Al_p (Pu_and rfl rfl rfl rfl) ?_
    refine Al_nil ?_
    refine Aw_cond rfl (fun h51 => ?_) (fun h51 => ?_)
    · (try simp only [decide_eq_true_eq, decide_eq_false_iff_not, Bool.and_eq_true, Bool.or_eq_true, Bool.and_eq_false_iff, Bool.or_eq_false_iff, Bool.not_eq_true', Bool.not_eq_false', beq_iff_eq, Bool.not_eq_eq_eq_not, Bool.not_true, Bool.not_false, List.length_map, Bool.and_true, Bool.and_false, Bool.false_and, Bool.true_and, Bool.or_false, Bool.false_or] at h51)
      have hst := L.qless_step (s := s) (p := pp) (show i < L.qnV s 64 (L.qA s p).2 by omega) h51.2
      refine Aw_skip (Aw_seq (Aw_block (Aw_region ?_)))
      refine Al_p Pu_mvl ?_
      refine Al_p Pu_mvl ?_
      refine Al_mcall (rqtext_m s pp hs hpp) rfl rfl rfl (by decide) (by kernel_rfl) rfl rfl trivial ?_
      refine Al_p (Pu_build (aa := [(0, _)]) rfl Try.underlying61 Try.zeroValue61 (places61 Try.underlying61) (by kernel_rfl) ⟨rfl, rfl, rfl, trivial⟩ rfl) ?_
      refine Al_p (Pu_slice1 rfl Try.underlying35 Try.sizeOf61 Try.zeroValue61 rfl (by decide) (by decide) (by kernel_rfl) rfl rfl rfl) ?_
      refine Al_append rfl rfl rfl (by decide) (by kernel_rfl) elem35 (by decide) Try.sizeOf61 rfl rfl rfl (by simp; omega) (by decide) (fun g59 => ?_)
      refine Al_p Pu_mvr ?_
      refine Al_nil (Aw_region ?_)
      refine Al_p Pu_mvl ?_
      refine Al_p (Pu_add rfl rfl rfl (fun h1 h2 => by simp only [A.inI, A.maxI] at *; omega)) ?_
      refine Al_p Pu_mvr ?_
      refine Al_nil ?_
      exact ⟨(i + 1, out ++ [⟨L.qtV s pp, 0, 0⟩], L.qtS s pp, g59), ⟨by omega, by simp [hol], L.qtS_le hpp, by rw [← ho1, hst, List.append_assoc]; rfl, by rw [← ho2, hst]⟩, by simp only []; omega, Le.ov ⟨Sub.num (by omega), Sub.rfl, trivial⟩ ⟨Sub.rfl, Sub.rfl, Sub.rfl, Sub.rfl, trivial⟩ ⟨obeq (by rw [List.map_append]; rfl), rfl, trivial⟩ trivial⟩ -- loop 1 next.0
    · (try simp only [decide_eq_true_eq, decide_eq_false_iff_not, Bool.and_eq_true, Bool.or_eq_true, Bool.and_eq_false_iff, Bool.or_eq_false_iff, Bool.not_eq_true', Bool.not_eq_false', beq_iff_eq, Bool.not_eq_eq_eq_not, Bool.not_true, Bool.not_false, List.length_map, Bool.and_true, Bool.and_false, Bool.false_and, Bool.true_and, Bool.or_false, Bool.false_or] at h51)
      have hen := L.qless_end (s := s) (n := L.qnV s 64 (L.qA s p).2) (i := i) (p := pp) (fun hc => h51.elim (fun h => h (by omega)) fun h => by rw [h] at hc; cases hc.2) hi
      rw [hen] at ho1 ho2
      obtain rfl : out = (L.qB s p).1 := by simpa using ho1
      obtain rfl : pp = (L.qB s p).2 := ho2
      refine Aw_exit (Aw_seq ?_)
      refine Aw_frzM hlent (k := 9) [9] rfl rfl rfl ⟨rfl, trivial⟩ ?_
      refine Aw_region ?_
      refine Al_p Pu_mvr ?_
      refine Al_nil (Aw_seq (Aw_seq (Aw_region ?_)))
      refine Al_p Pu_mvr ?_
      refine Al_nil (Aw_block ?_)
      refine Aw_loopk (ι := Nat × (List Dep)) [1, 5, 9] [1000] (fun (k, out) => [(13, .d (iv k)), (12, .d (.sl 3 (out.map Dep.row)))]) (fun (k, out) => []) (fun (k, out) => k ≤ ahead.length ∧ out = (L.kept (L.qA s p).1 (L.qB s p).1 (ahead.take k)).foldl D.add [] ∧ out.length ≤ k) (fun (k, out) => ahead.length - k) ((0, [])) (⟨Nat.zero_le _, ⟨rfl, Nat.le_refl _⟩⟩) ⟨Sub.rfl, Sub.nil, trivial⟩ trivial ?_
      rintro ⟨k, out⟩ ⟨hk2, ⟨hout, hol⟩⟩
      refine Aw_seq (Aw_seq (Aw_region ?_))
      refine Al_p Pu_mvl ?_
      refine Al_p Pu_mvl ?_
      refine Al_p (Pu_len rfl Try.underlying35 rfl (by first | exact List.length_map .. | exact rfl)) ?_
      refine Al_p (Pu_cmp rfl rfl rfl rfl) ?_
      refine Al_nil ?_
      refine Aw_cond rfl (fun h63 => ?_) (fun h63 => ?_)
      · (try simp only [decide_eq_true_eq, decide_eq_false_iff_not, Bool.and_eq_true, Bool.or_eq_true, Bool.and_eq_false_iff, Bool.or_eq_false_iff, Bool.not_eq_true', Bool.not_eq_false', beq_iff_eq, Bool.not_eq_eq_eq_not, Bool.not_true, Bool.not_false, List.length_map, Bool.and_true, Bool.and_false, Bool.false_and, Bool.true_and, Bool.or_false, Bool.false_or] at h63)
        have hkl : k < ahead.length := by omega
        have hsn := L.filter_snoc (fun d => !L.keyB (L.qA s p).1 d.key && !L.keyB (L.qB s p).1 d.key) ahead hkl
        refine Aw_skip ?_
        -- join 0: live [1, 5, 9, 12, 13], turned [12]
        refine Aw_seq (Aw_block (Aw_seq (Aw_region ?_)))
        refine Al_p Pu_mvl ?_
        refine Al_p Pu_mvl ?_
        refine Al_p Pu_mvl ?_
        refine Al_p (Pu_index rfl Try.underlying35 Try.sizeOf61 rfl rfl (rfl) (mapget hkl)) ?_
        refine Al_p (Pu_field 0 rfl Try.underlying61 rfl rfl Try.sizeOf9 rfl) ?_
        refine Al_p (Pu_load1 rfl Try.isAgg9 rfl rfl) ?_
        refine Al_p (Pu_call (rkey_a _ _) rfl ⟨Sub.rfl, Sub.rfl, trivial⟩) ?_
        refine Al_p Pu_mvr ?_
        refine Al_nil (Aw_seq (Aw_region ?_))
        refine Al_p Pu_mvl ?_
        refine Al_p Pu_mvl ?_
        refine Al_p Pu_mvl ?_
        refine Al_p (Pu_index rfl Try.underlying35 Try.sizeOf61 rfl rfl (rfl) (mapget hkl)) ?_
        refine Al_p (Pu_field 0 rfl Try.underlying61 rfl rfl Try.sizeOf9 rfl) ?_
        refine Al_p (Pu_load1 rfl Try.isAgg9 rfl rfl) ?_
        refine Al_p (Pu_call (rkey_a _ _) rfl ⟨Sub.rfl, Sub.rfl, trivial⟩) ?_
        refine Al_p Pu_mvr ?_
        refine Al_nil (Aw_seq (Aw_region ?_))
        refine Al_p Pu_mvl ?_
        refine Al_p (Pu_not rfl rfl) ?_
        refine Al_p Pu_mvl ?_
        refine Al_st (St_gd [] rfl rfl rfl rfl trivial (fun hg83 => by exact Pu_move (.inl rfl) (by conv => lhs; whnf))) rfl (by decide) (by kernel_rfl) (by intro j b oj dj h1 h2 h3; cases h1; cases h2; cases h3; decide) ?_
        refine Al_st (St_gd [83] rfl rfl rfl rfl ⟨⟨_, rfl⟩, trivial⟩ (fun hg84 => Pu_not rfl rfl)) rfl (by decide) (by kernel_rfl) (by intro j b oj dj h1 h2 h3; cases h1; cases h2; cases h3; decide) ?_
        refine Al_p (Pu_and rfl rfl rfl rfl) ?_
        refine Al_nil ?_
        refine Aw_cond rfl (fun h85 => ?_) (fun h85 => ?_)
        · (try simp only [decide_eq_true_eq, decide_eq_false_iff_not, Bool.and_eq_true, Bool.or_eq_true, Bool.and_eq_false_iff, Bool.or_eq_false_iff, Bool.not_eq_true', Bool.not_eq_false', beq_iff_eq, Bool.not_eq_eq_eq_not, Bool.not_true, Bool.not_false, List.length_map, Bool.and_true, Bool.and_false, Bool.false_and, Bool.true_and, Bool.or_false, Bool.false_or] at h85)
          have hadl := D.add_len out (ahead[k]'hkl)
          refine Aw_region ?_
          refine Al_p Pu_mvl ?_
          refine Al_p Pu_mvl ?_
          refine Al_p Pu_mvl ?_
          refine Al_p (Pu_index rfl Try.underlying35 Try.sizeOf61 rfl rfl (rfl) (mapget hkl)) ?_
          refine Al_p (Pu_loadN rfl Try.isAgg61 Try.sizeOf61 rfl (Nat.le_of_ble_eq_true rfl)) ?_
          refine Al_p (Pu_call (dadd_a out (ahead[k]'hkl) (by omega)) rfl ⟨Sub.rfl, Sub.rfl, trivial⟩) ?_
          refine Al_p Pu_mvr ?_
          refine Al_nil (Aw_region ?_)
          refine Al_p Pu_mvl ?_
          refine Al_p (Pu_add rfl rfl rfl (fun h1 h2 => by simp only [A.inI, A.maxI] at *; omega)) ?_
          refine Al_p Pu_mvr ?_
          refine Al_nil ?_
          exact ⟨(k + 1, D.add out (ahead[k]'hkl)), ⟨by omega, ⟨by unfold L.kept at hout ⊢; rw [hsn, h85.1, h85.2, List.foldl_append, ← hout]; rfl, by omega⟩⟩, by simp only []; omega, Le.ov ⟨Sub.num (by omega), Sub.rfl, trivial⟩ ⟨Sub.rfl, Sub.rfl, Sub.rfl, trivial⟩ trivial ⟨rfl, trivial⟩⟩ -- loop 2 next.0
        · (try simp only [decide_eq_true_eq, decide_eq_false_iff_not, Bool.and_eq_true, Bool.or_eq_true, Bool.and_eq_false_iff, Bool.or_eq_false_iff, Bool.not_eq_true', Bool.not_eq_false', beq_iff_eq, Bool.not_eq_eq_eq_not, Bool.not_true, Bool.not_false, List.length_map, Bool.and_true, Bool.and_false, Bool.false_and, Bool.true_and, Bool.or_false, Bool.false_or] at h85)
          refine Aw_skip (Aw_region ?_)
          refine Al_p Pu_mvl ?_
          refine Al_p (Pu_add rfl rfl rfl (fun h1 h2 => by simp only [A.inI, A.maxI] at *; omega)) ?_
          refine Al_p Pu_mvr ?_
          refine Al_nil ?_
          exact ⟨(k + 1, out), ⟨by omega, ⟨by
            unfold L.kept at hout ⊢
            rw [hsn, if_neg (fun hc => by rcases h85 with h | h <;> simp [h] at hc), List.append_nil]
            exact hout, by omega⟩⟩, by simp only []; omega, Le.ov ⟨Sub.num (by omega), Sub.rfl, trivial⟩ ⟨Sub.rfl, Sub.rfl, Sub.rfl, trivial⟩ trivial ⟨rfl, trivial⟩⟩ -- loop 2 next.1
      · (try simp only [decide_eq_true_eq, decide_eq_false_iff_not, Bool.and_eq_true, Bool.or_eq_true, Bool.and_eq_false_iff, Bool.or_eq_false_iff, Bool.not_eq_true', Bool.not_eq_false', beq_iff_eq, Bool.not_eq_eq_eq_not, Bool.not_true, Bool.not_false, List.length_map, Bool.and_true, Bool.and_false, Bool.false_and, Bool.true_and, Bool.or_false, Bool.false_or] at h63)
        obtain rfl : k = ahead.length := by omega
        rw [List.take_length] at hout
        refine Aw_exit (Aw_seq (Aw_seq (Aw_region ?_)))
        refine Al_p Pu_mvr ?_
        refine Al_nil (Aw_block ?_)
        refine Aw_loopk (ι := Nat × (List Dep)) [5] [1000] (fun (k, o2) => [(16, .d (iv k)), (12, .d (.sl 3 (o2.map Dep.row)))]) (fun (k, o2) => []) (fun (k, o2) => k ≤ (L.qA s p).1.length ∧ o2 = ((L.qA s p).1.take k).foldl D.add out ∧ o2.length ≤ out.length + k) (fun (k, o2) => (L.qA s p).1.length - k) ((0, out)) (⟨Nat.zero_le _, ⟨rfl, Nat.le_refl _⟩⟩) ⟨Sub.rfl, Sub.rfl, trivial⟩ trivial ?_
        rintro ⟨k, o2⟩ ⟨hk3, ⟨ho3, hol3⟩⟩
        refine Aw_seq (Aw_seq (Aw_region ?_))
        refine Al_p Pu_mvl ?_
        refine Al_p Pu_mvl ?_
        refine Al_p (Pu_len rfl Try.underlying35 rfl (by first | exact List.length_map .. | exact rfl)) ?_
        refine Al_p (Pu_cmp rfl rfl rfl rfl) ?_
        refine Al_nil ?_
        refine Aw_cond rfl (fun h95 => ?_) (fun h95 => ?_)
        · (try simp only [decide_eq_true_eq, decide_eq_false_iff_not, Bool.and_eq_true, Bool.or_eq_true, Bool.and_eq_false_iff, Bool.or_eq_false_iff, Bool.not_eq_true', Bool.not_eq_false', beq_iff_eq, Bool.not_eq_eq_eq_not, Bool.not_true, Bool.not_false, List.length_map, Bool.and_true, Bool.and_false, Bool.false_and, Bool.true_and, Bool.or_false, Bool.false_or] at h95)
          have hkl : k < (L.qA s p).1.length := by omega
          refine Aw_skip (Aw_seq (Aw_block (Aw_region ?_)))
          refine Al_p Pu_mvl ?_
          refine Al_p Pu_mvl ?_
          refine Al_p Pu_mvl ?_
          refine Al_p (Pu_index rfl Try.underlying35 Try.sizeOf61 rfl rfl (rfl) (mapget hkl)) ?_
          refine Al_p (Pu_loadN rfl Try.isAgg61 Try.sizeOf61 rfl (Nat.le_of_ble_eq_true rfl)) ?_
          refine Al_p (Pu_call (dadd_a o2 ((L.qA s p).1[k]'hkl) (by omega)) rfl ⟨Sub.rfl, Sub.rfl, trivial⟩) ?_
          refine Al_p Pu_mvr ?_
          refine Al_nil (Aw_region ?_)
          refine Al_p Pu_mvl ?_
          refine Al_p (Pu_add rfl rfl rfl (fun h1 h2 => by simp only [A.inI, A.maxI] at *; omega)) ?_
          refine Al_p Pu_mvr ?_
          refine Al_nil ?_
          exact ⟨(k + 1, D.add o2 ((L.qA s p).1[k]'hkl)), ⟨by omega, ⟨by rw [List.take_succ_eq_append_getElem hkl, List.foldl_append, ← ho3]; rfl, by have := D.add_len o2 ((L.qA s p).1[k]'hkl); omega⟩⟩, by simp only []; omega, Le.ov ⟨Sub.num (by omega), Sub.rfl, trivial⟩ ⟨Sub.rfl, trivial⟩ trivial ⟨rfl, trivial⟩⟩ -- loop 3 next.0
        · (try simp only [decide_eq_true_eq, decide_eq_false_iff_not, Bool.and_eq_true, Bool.or_eq_true, Bool.and_eq_false_iff, Bool.or_eq_false_iff, Bool.not_eq_true', Bool.not_eq_false', beq_iff_eq, Bool.not_eq_eq_eq_not, Bool.not_true, Bool.not_false, List.length_map, Bool.and_true, Bool.and_false, Bool.false_and, Bool.true_and, Bool.or_false, Bool.false_or] at h95)
          obtain rfl : k = (L.qA s p).1.length := by omega
          rw [List.take_length] at ho3
          refine Aw_exit (Aw_seq (Aw_region ?_))
          refine Al_p Pu_mvl ?_
          refine Al_p Pu_mvr ?_
          refine Al_nil ?_
          refine Aw_ret ?_
          exact ⟨_, _, rfl, Sub.d (by rw [ho3, hout]; rfl), rfl⟩ -- ret 0
end Go.Proofs.Ytlcahhlghjbnkaa
end

section
namespace Go.Proofs.Ytlcahhlghjbnkaa
open Go Go.RowKit A R
namespace L
theorem q1_le {s : ByteArray} {p : QS} (h : p.1 ≤ s.size) : (q1 s p).1 ≤ s.size := qnS_le h
theorem q2_le {s : ByteArray} {p : QS} (h : p.1 ≤ s.size) : (q2 s p).1 ≤ s.size := qnS_le (q1_le h)
theorem q3_le {s : ByteArray} {p : QS} (h : p.1 ≤ s.size) : (q3 s p).1 ≤ s.size := qtS_le (q2_le h)
theorem q4_le {s : ByteArray} {p : QS} (h : p.1 ≤ s.size) : (q4 s p).1 ≤ s.size := qnS_le (q3_le h)
theorem q5_le {s : ByteArray} {p : QS} (h : p.1 ≤ s.size) : (q5 s p).1 ≤ s.size := by
  unfold q5
  split
  · exact qsS_le (q4_le h)
  · exact q4_le h
theorem q6_le {s : ByteArray} {p : QS} (h : p.1 ≤ s.size) : (q6 s p).1 ≤ s.size := (qB_fit (q5_le h)).2
/-- What was read well lies further on. -/
theorem qnS_go {s : ByteArray} {most : Nat} {p : QS} (h : (qnS s most p).2 = false) : p.2 = false ∧ p.1 + 1 ≤ (qnS s most p).1 := by
  unfold qnS at h ⊢
  split at h
  · rename_i hq
    rw [if_pos hq]
    unfold qok at hq
    simp only [Bool.not_eq_true', Bool.or_eq_false_iff, decide_eq_false_iff_not] at hq
    refine ⟨hq.1.1, ?_⟩
    rcases V.got_cases s p.1 with ⟨_, _, h3, _⟩ | ⟨n, t, _, _, h3, h4, _, h6⟩
    · exact (hq.1.2 (by rw [h3]; rfl)).elim
    · have hl := (V.rdB_suf h4).2
      have hl2 := congrArg List.length hl
      rw [List.length_append, List.length_drop, Array.length_toList] at hl2
      have := V.num_pos n
      have hs : s.data.size = s.size := rfl
      simp only
      rw [h3]; omega
  · cases h
theorem qtS_go {s : ByteArray} {p : QS} (h : (qtS s p).2 = false) : p.2 = false ∧ p.1 + 1 ≤ (qtS s p).1 := by
  unfold qtS at h ⊢
  split at h
  · rename_i hq
    rw [if_pos hq]
    unfold qtok at hq
    simp only [Bool.not_eq_true', Bool.or_eq_false_iff, decide_eq_false_iff_not] at hq
    refine ⟨hq.1, ?_⟩
    cases hp : V.ptext 32 (s.data.toList.drop p.1) with
    | none => exact (hq.2 (by rw [(V.rt_none hp).2.1]; rfl)).elim
    | some x =>
      obtain ⟨x, t⟩ := x
      have hl := ((V.ptext_iff (by omega)).1 hp).2
      have hl2 := congrArg List.length hl
      rw [List.length_append, List.length_drop, Array.length_toList, V.text_ba, List.length_append] at hl2
      have := V.num_pos x.length
      have hs : s.data.size = s.size := rfl
      simp only
      rw [(V.rt_some hp).2.1]; omega
  · cases h
theorem qsS_go {s : ByteArray} {p : QS} (h : (qsS s p).2 = false) : p.2 = false ∧ p.1 ≤ (qsS s p).1 := by
  unfold qsS at h ⊢
  split at h
  · rename_i hq
    rw [if_pos hq]
    unfold qsok at hq
    simp only [Bool.not_eq_true', Bool.or_eq_false_iff, decide_eq_false_iff_not] at hq
    refine ⟨hq.1, ?_⟩
    unfold V.stEn at hq ⊢
    cases hp : V.pst (s.data.toList.drop p.1) with
    | none => rw [hp] at hq; exact (hq.2 rfl).elim
    | some x =>
      obtain ⟨⟨n, i⟩, t⟩ := x
      have hl := (V.pst_iff.1 hp).2
      have hl2 := congrArg List.length hl
      rw [List.length_append, List.length_append, List.length_drop, Array.length_toList] at hl2
      have := V.num_pos n
      have hs : s.data.size = s.size := rfl
      simp only
      omega
  · cases h
theorem qmore_go {s : ByteArray} : ∀ (k : Nat) (p : QS), (qmore s k p).2.2 = false → p.2 = false ∧ p.1 ≤ (qmore s k p).2.1
  | 0, p, h => ⟨h, Nat.le_refl _⟩
  | k + 1, p, h => by
    rw [qmore] at h ⊢
    split at h
    · rename_i hb; rw [hb] at h; cases h
    · rename_i hb
      rw [if_neg hb]
      obtain ⟨h1, h2⟩ := qmore_go k _ h
      obtain ⟨h3, h4⟩ := qsS_go h1
      obtain ⟨h5, h6⟩ := qtS_go h3
      exact ⟨h5, by simp only; omega⟩
theorem qless_go {s : ByteArray} : ∀ (k : Nat) (p : QS), (qless s k p).2.2 = false → p.2 = false ∧ p.1 ≤ (qless s k p).2.1
  | 0, p, h => ⟨h, Nat.le_refl _⟩
  | k + 1, p, h => by
    rw [qless] at h ⊢
    split at h
    · rename_i hb; rw [hb] at h; cases h
    · rename_i hb
      rw [if_neg hb]
      obtain ⟨h1, h2⟩ := qless_go k _ h
      obtain ⟨h3, h4⟩ := qtS_go h1
      exact ⟨h3, by simp only; omega⟩
theorem q6_go {s : ByteArray} {p : QS} (h : (q6 s p).2 = false) : p.1 + 6 ≤ (q6 s p).1 := by
  obtain ⟨a1, a2⟩ := qless_go (s := s) _ _ (show (qless s (qnV s 64 (qA s (q5 s p)).2) (qnS s 64 (qA s (q5 s p)).2)).2.2 = false from h)
  obtain ⟨b1, b2⟩ := qnS_go a1
  obtain ⟨c1, c2⟩ := qmore_go (s := s) _ _ (show (qmore s (qnV s 64 (q5 s p)) (qnS s 64 (q5 s p))).2.2 = false from b1)
  obtain ⟨d1, d2⟩ := qnS_go c1
  have e : (q4 s p).2 = false ∧ (q4 s p).1 ≤ (q5 s p).1 := by
    unfold q5 at d1 ⊢
    split at d1
    · rename_i hf; rw [if_pos hf]; exact qsS_go d1
    · rename_i hf; rw [if_neg hf]; exact ⟨d1, Nat.le_refl _⟩
  obtain ⟨f1, f2⟩ := qnS_go (s := s) (most := 1) (p := q3 s p) e.1
  obtain ⟨g1, g2⟩ := qtS_go (s := s) (p := q2 s p) f1
  obtain ⟨h1, h2⟩ := qnS_go (s := s) (most := 1000) (p := q1 s p) g1
  obtain ⟨i1, i2⟩ := qnS_go (s := s) (most := 2) (p := p) h1
  have e2 := e.2
  unfold q4 q3 q2 q1 at *
  show p.1 + 6 ≤ (qless s (qnV s 64 (qA s (q5 s p)).2) (qnS s 64 (qA s (q5 s p)).2)).2.1
  have b3 : (qmore s (qnV s 64 (q5 s p)) (qnS s 64 (q5 s p))).2.1 = (qA s (q5 s p)).2.1 := rfl
  omega
theorem qev_key (s : ByteArray) (p : QS) (sn : List Dep) : (qev s p sn).key.size ≤ 32 := qtV_size s (q2 s p)
theorem qevents_step {s : ByteArray} {n i : Nat} {out : List Event} {p : QS} (h : i < n) (hb : p.2 = false) : qevents s (n - i) out p = qevents s (n - (i + 1)) (out ++ [qevent s out p]) (q6 s p) := by
  rw [show n - i = (n - (i + 1)) + 1 from by omega, qevents, hb, if_neg (by simp)]
theorem qevents_end {s : ByteArray} {n i : Nat} {out : List Event} {p : QS} (h : ¬ (i < n ∧ p.2 = false)) (hi : i ≤ n) : qevents s (n - i) out p = (out, p) := by
  by_cases hin : i < n
  · have hb : p.2 = true := by
      cases hb : p.2 with
      | true => rfl
      | false => exact (h ⟨hin, hb⟩).elim
    exact qevents_bad s _ out p hb
  · rw [show n - i = 0 from by omega]; rfl
/-- All that was read is small. -/
structure QFit (s : ByteArray) (out : List Event) : Prop where
  key : ∀ e ∈ out, e.key.size ≤ 32
  len : ∀ e ∈ out, e.seen.length ≤ 64 * out.length
  seen : ∀ e ∈ out, ∀ d ∈ e.seen, d.key.size ≤ 32
theorem QFit.last {s : ByteArray} {out : List Event} (h : QFit s out) (c : Int) : (lastM (fun _ => []) out c).length ≤ 64 * out.length ∧ ∀ d ∈ lastM (fun _ => []) out c, d.key.size ≤ 32 := by
  rcases last_of out c with h1 | ⟨e, he, h1⟩
  · rw [h1]; exact ⟨Nat.zero_le _, fun d hd => by cases hd⟩
  · rw [h1]; exact ⟨h.len e he, h.seen e he⟩
theorem QFit.next {s : ByteArray} {out : List Event} (h : QFit s out) {p : QS} (hp : p.1 ≤ s.size) : QFit s (out ++ [qevent s out p]) := by
  obtain ⟨l1, l2⟩ := h.last (qnV s 1000 (q1 s p) : Nat)
  obtain ⟨m1, m2⟩ := qseen_fit (s := s) (p := q5 s p) (q5_le hp) l2
  refine ⟨fun e he => ?_, fun e he => ?_, fun e he => ?_⟩
  · rcases List.mem_append.1 he with he | he
    · exact h.key e he
    · rw [List.mem_singleton.1 he]; exact qev_key s p _
  · rcases List.mem_append.1 he with he | he
    · have := h.len e he; simp; omega
    · rw [List.mem_singleton.1 he]
      have : (qevent s out p).seen.length ≤ 64 * out.length + 64 := by unfold qevent qev; simp only; omega
      simp; omega
  · rcases List.mem_append.1 he with he | he
    · exact h.seen e he
    · rw [List.mem_singleton.1 he]; exact m2
theorem QFit.fit {s : ByteArray} {out : List Event} (h : QFit s out) : fit out := fun e he => ⟨by have := h.key e he; omega, fun d hd => by have := h.seen e he d hd; omega⟩
def qreadA (s : ByteArray) : AV := match qread s with
  | some es => .tup [.sl 6 (es.map Event.row), bv true]
  | none => .tup [.sl 6 [], bv false]
theorem set_last {out : List Event} {e e' : Event} (cs : List AV) (he : e.row.take 5 = e'.row.take 5) (hc : [AV.sl 3 (e'.seen.map Dep.row)] = cs) : ((out ++ [e']).map Event.row).flatten = ((out ++ [e]).map Event.row).flatten.take (out.length * 6 + 5) ++ cs ++ ((out ++ [e]).map Event.row).flatten.drop (out.length * 6 + 5 + 1) := by
  have hf : ∀ l : List Event, (l.map Event.row).flatten.length = l.length * 6 := fun l => by
    induction l with
    | nil => rfl
    | cons x r ih => rw [List.map_cons, List.flatten_cons, List.length_append, ih]; simp [Event.row]; omega
  subst hc
  rw [List.map_append, List.map_append, List.flatten_append, List.flatten_append]
  have h0 := hf out
  rw [List.take_append, List.drop_append, h0, List.take_of_length_le (by omega), List.drop_of_length_le (by omega)]
  simp only [List.map_cons, List.map_nil, List.flatten_cons, List.flatten_nil, List.append_nil, List.nil_append]
  rw [show out.length * 6 + 5 - out.length * 6 = 5 from by omega, show out.length * 6 + 5 + 1 - out.length * 6 = 6 from by omega, he]
  simp [Event.row]
end L
namespace L
theorem ev_at : ∀ (l : List Event) (k : Nat) (hk : k < l.length) (j : Nat), j < 6 → (l.map Event.row).flatten[k * 6 + j]? = (l[k]).row[j]?
  | x :: r, 0, _, j, hj => by
    rw [List.map_cons, List.flatten_cons, Nat.zero_mul, Nat.zero_add, List.getElem?_append_left (by simp [Event.row]; omega)]; rfl
  | x :: r, k + 1, hk, j, hj => by
    rw [List.map_cons, List.flatten_cons, List.getElem?_append_right (by simp [Event.row]; omega), show (k + 1) * 6 + j - (x.row).length = k * 6 + j from by simp [Event.row]; omega]
    exact ev_at r k (by simpa using hk) j hj
end L
set_option maxRecDepth 100000 in
theorem rlast_g (l : List Event) (i : Nat) (hi : i < l.length) : GCall Try.prog 24 [.ow 1001 0, .d (iv i)] [(1001, .arr 37 6 (l.map Event.row))] (some ([(1001, .arr 37 6 (l.map Event.row))], .d (.sl 3 ((L.lastS l l[i].client i).map Dep.row)))) := by
  refine GCall_enter (fun _ _ => by kernel_rfl) Try.func24 rfl Try.ntmps24 (ReadsS.r1 Try.results24) (Nat.le_of_ble_eq_true rfl) (fun hok hokB M0 w0 => ?_)
  refine Aw_seq (Aw_region ?_)
  refine Al_p Pu_mvr ?_
  refine Al_nil (Aw_seq (Aw_seq (Aw_region ?_)))
  refine Al_p Pu_mvl ?_
  refine Al_p (Pu_sub rfl rfl rfl (fun h1 h2 => by simp only [A.inI, A.maxI] at *; omega)) ?_
  refine Al_p Pu_mvr ?_
  refine Al_nil (Aw_block ?_)
  refine Aw_loopk (ι := Nat) [0, 1] [1001] (fun k => [(5, .d (iv ((k : Int) - 1)))]) (fun k => []) (fun k => k ≤ i ∧ L.lastS l l[i].client k = L.lastS l l[i].client i) (fun k => k) (i) (⟨Nat.le_refl _, rfl⟩) ⟨Sub.rfl, trivial⟩ trivial ?_
  rintro k ⟨hk, he⟩
  refine Aw_seq (Aw_seq (Aw_region ?_))
  refine Al_p Pu_mvl ?_
  refine Al_p (Pu_cmp rfl rfl rfl rfl) ?_
  refine Al_nil ?_
  refine Aw_cond rfl (fun h9 => ?_) (fun h9 => ?_)
  · (try simp only [decide_eq_true_eq, decide_eq_false_iff_not, Bool.and_eq_true, Bool.or_eq_true, Bool.and_eq_false_iff, Bool.or_eq_false_iff, Bool.not_eq_true', Bool.not_eq_false', beq_iff_eq, Bool.not_eq_eq_eq_not, Bool.not_true, Bool.not_false, List.length_map, Bool.and_true, Bool.and_false, Bool.false_and, Bool.true_and, Bool.or_false, Bool.false_or] at h9)
    obtain ⟨k, rfl⟩ : ∃ j, k = j + 1 := ⟨k - 1, by omega⟩
    have hkl : k < l.length := by omega
    refine Aw_skip (Aw_seq (Aw_block (Aw_seq ?_)))
    refine Aw_draw 11 (by kernel_rfl) (by kernel_rfl) ?_
    refine Dr_p Pu_mvl ?_
    refine Dr_p Pu_mvl ?_
    refine Dr_p (Pu_indexOw (j := k) rfl Try.underlying22 Try.sizeOf37 rfl rfl rfl (show (((k + 1 : Nat) : Int) - 1) = (k : Int) by omega) (by rw [List.length_map]; exact hkl)) ?_
    refine Dr_p (Pu_fieldb 1 rfl Try.underlying37 rfl rfl Try.sizeOf3 rfl) ?_
    refine Dr_p (Pu_loadArr rfl Try.isAgg3 rfl rfl (L.ev_at l k hkl 1 (by omega))) ?_
    refine Dr_p Pu_mvl ?_
    refine Dr_p Pu_mvl ?_
    refine Dr_p (Pu_indexOw (j := i) rfl Try.underlying22 Try.sizeOf37 rfl rfl rfl rfl (by rw [List.length_map]; exact hi)) ?_
    refine Dr_p (Pu_fieldb 1 rfl Try.underlying37 rfl rfl Try.sizeOf3 rfl) ?_
    refine Dr_p (Pu_loadArr rfl Try.isAgg3 rfl rfl (L.ev_at l i hi 1 (by omega))) ?_
    refine Dr_p (Pu_cmp rfl rfl rfl rfl) ?_
    refine Dr_nil (Al_nil ?_)
    refine Aw_cond rfl (fun h22 => ?_) (fun h22 => ?_)
    · (try simp only [decide_eq_true_eq, decide_eq_false_iff_not, Bool.and_eq_true, Bool.or_eq_true, Bool.and_eq_false_iff, Bool.or_eq_false_iff, Bool.not_eq_true', Bool.not_eq_false', beq_iff_eq, Bool.not_eq_eq_eq_not, Bool.not_true, Bool.not_false, List.length_map, Bool.and_true, Bool.and_false, Bool.false_and, Bool.true_and, Bool.or_false, Bool.false_or] at h22)
      refine Aw_seq (Aw_region ?_)
      refine Al_p Pu_mvl ?_
      refine Al_p Pu_mvl ?_
      refine Al_p (Pu_indexOw (j := k) rfl Try.underlying22 Try.sizeOf37 rfl rfl rfl (show (((k + 1 : Nat) : Int) - 1) = (k : Int) by omega) (by rw [List.length_map]; exact hkl)) ?_
      refine Al_p (Pu_fieldb 5 rfl Try.underlying37 rfl rfl Try.sizeOf35 rfl) ?_
      refine Al_p (Pu_loadArr rfl Try.isAgg35 rfl rfl (L.ev_at l k hkl 5 (by omega))) ?_
      refine Al_p Pu_mvr ?_
      refine Al_nil ?_
      refine Aw_ret ?_
      exact ⟨_, _, [], rfl, Sub.d (by rw [← he, L.lastS, dif_pos hkl, if_pos h22]), ⟨rfl, trivial⟩, rfl⟩ -- ret 0
    · (try simp only [decide_eq_true_eq, decide_eq_false_iff_not, Bool.and_eq_true, Bool.or_eq_true, Bool.and_eq_false_iff, Bool.or_eq_false_iff, Bool.not_eq_true', Bool.not_eq_false', beq_iff_eq, Bool.not_eq_eq_eq_not, Bool.not_true, Bool.not_false, List.length_map, Bool.and_true, Bool.and_false, Bool.false_and, Bool.true_and, Bool.or_false, Bool.false_or] at h22)
      refine Aw_skip (Aw_region ?_)
      refine Al_p Pu_mvl ?_
      refine Al_p (Pu_sub rfl rfl rfl (fun h1 h2 => by simp only [A.inI, A.maxI] at *; omega)) ?_
      refine Al_p Pu_mvr ?_
      refine Al_nil ?_
      exact ⟨k, ⟨by omega, by rw [← he, L.lastS, dif_pos hkl, if_neg h22]⟩, by omega, Le.ov ⟨Sub.num (by omega), trivial⟩ ⟨Sub.rfl, Sub.rfl, trivial⟩ trivial ⟨rfl, trivial⟩⟩ -- loop 0 next.0
  · (try simp only [decide_eq_true_eq, decide_eq_false_iff_not, Bool.and_eq_true, Bool.or_eq_true, Bool.and_eq_false_iff, Bool.or_eq_false_iff, Bool.not_eq_true', Bool.not_eq_false', beq_iff_eq, Bool.not_eq_eq_eq_not, Bool.not_true, Bool.not_false, List.length_map, Bool.and_true, Bool.and_false, Bool.false_and, Bool.true_and, Bool.or_false, Bool.false_or] at h9)
    obtain rfl : k = 0 := by omega
    refine Aw_exit (Aw_seq (Aw_region ?_))
    refine Al_p Pu_mvr ?_
    refine Al_nil ?_
    refine Aw_ret ?_
    exact ⟨_, _, [], rfl, by rw [show L.lastS l l[i].client i = [] from by rw [← he]; rfl]; exact Sub.nil, ⟨rfl, trivial⟩, rfl⟩ -- ret 1
theorem rlast2_g (out : List Event) (e : Event) : GCall Try.prog 24 [.ow 1001 0, .d (iv out.length)] [(1001, .arr 37 6 ((out ++ [e]).map Event.row))] (some ([(1001, .arr 37 6 ((out ++ [e]).map Event.row))], .d (.sl 3 ((L.lastM (fun _ => []) out e.client).map Dep.row)))) := by
  have h := rlast_g (out ++ [e]) out.length (by simp)
  have h1 := L.lastS_M (out ++ [e]) e.client out.length (by simp)
  rw [List.take_left' rfl] at h1
  rw [h1]
  simpa using h
set_option maxRecDepth 100000 in
set_option maxHeartbeats 4000000 in
theorem rread26_a (s : ByteArray) (hs : s.size ≤ 5000) : ACall Try.prog 9 [tv s] (L.qreadA s) := by
  refine ACall_enterG (fun _ _ => by kernel_rfl) Try.func9 rfl Try.ntmps9 (Reads.r2 Try.results9) (Nat.le_of_ble_eq_true rfl) (fun hok M0 w0 hnl => ?_)
  have hn0 := L.qnV_le s 4096 (0, false)
  have hp0 : ((0, false) : L.QS).1 ≤ s.size := Nat.zero_le _
  refine Aw_seq (Aw_region ?_)
  refine Al_p Pu_mvr ?_
  refine Al_p Pu_mvr ?_
  refine Al_nil (Aw_seq (Aw_region ?_))
  refine Al_p Pu_mvl ?_
  refine Al_p (Pu_build (aa := [(0, _)]) rfl Try.underlying51 Try.zeroValue51 (places51 Try.underlying51) (by kernel_rfl) ⟨rfl, rfl, rfl, trivial⟩ rfl) ?_
  refine Al_boxN rfl rfl rfl (by decide) (by kernel_rfl) rfl (fun g12 => ?_)
  refine Al_p Pu_mvr ?_
  refine Al_nil (Aw_seq (Aw_region ?_))
  refine Al_p Pu_mvr ?_
  refine Al_nil (Aw_seq (Aw_region ?_))
  refine Al_p Pu_mvl ?_
  refine Al_mcall (rqnum_m s (0, false) 4096 (by omega) hp0 (by omega)) rfl rfl rfl (by decide) (by kernel_rfl) rfl rfl ⟨Sub.rfl, trivial⟩ ?_
  refine Al_p Pu_mvr ?_
  refine Al_nil (Aw_seq (Aw_seq (Aw_region ?_)))
  refine Al_p Pu_mvr ?_
  refine Al_nil (Aw_block ?_)
  refine Aw_own (j := 5) (k := 5) (T := 37) (n := 6) rfl (fun g0 => ?_)
  refine Aw_loopk (ι := Nat × (List Event) × L.QS × Nat) [0, 4, 6] [] (fun (i, out, pp, g) => [(7, .d (iv i)), (5, .ow 5 g)]) (fun (i, out, pp, g) => [(5, g, .arr 37 6 (out.map Event.row)), (12, g12, .box 51 ((L.qcs s pp).map .d))]) (fun (i, out, pp, g) => i ≤ L.qnV s 4096 (0, false) ∧ out.length = i ∧ pp.1 ≤ s.size ∧ L.qevents s (L.qnV s 4096 (0, false) - i) out pp = L.qall s ∧ L.QFit s out ∧ (pp.2 = false → 6 * i ≤ pp.1)) (fun (i, out, pp, g) => L.qnV s 4096 (0, false) - i) (0, [], L.qnS s 4096 (0, false), g0) (⟨Nat.zero_le _, rfl, L.qnS_le hp0, rfl, ⟨fun e h => (by cases h), fun e h => (by cases h), fun e h => (by cases h)⟩, fun _ => Nat.zero_le _⟩) ⟨Sub.rfl, Sub.rfl, trivial⟩ ⟨rfl, rfl, trivial⟩ ?_
  rintro ⟨i, out, pp, g⟩ ⟨hi, rfl, hpp, hall, hfit, hgo⟩
  refine Aw_seq (Aw_seq (Aw_region ?_))
  refine Al_p Pu_mvl ?_
  refine Al_p Pu_mvl ?_
  refine Al_p (Pu_cmp rfl rfl rfl rfl) ?_
  refine Al_p Pu_mvl ?_
  refine Al_st (St_gd [] rfl rfl rfl rfl trivial (fun hg19 => by exact Pu_move (.inl rfl) (by conv => lhs; whnf))) rfl (by decide) (by kernel_rfl) (by intro j b oj dj h1 h2 h3; cases h1; cases h2; cases h3; decide) ?_
  refine Al_st (St_gd [19] rfl rfl rfl rfl ⟨⟨_, rfl⟩, trivial⟩ (fun hg20 => Pu_nilb rfl rfl)) rfl (by decide) (by kernel_rfl) (by intro j b oj dj h1 h2 h3; cases h1; cases h2; cases h3; decide) ?_
  refine Al_st (St_gd [20] rfl rfl rfl rfl ⟨⟨_, rfl⟩, trivial⟩ (fun hg21 => Pu_fieldb 2 rfl Try.underlying51 rfl rfl Try.sizeOf4 rfl)) rfl (by decide) (by kernel_rfl) (by intro j b oj dj h1 h2 h3; cases h1; cases h2; cases h3; decide) ?_
  refine Al_st (St_gd [21] rfl rfl rfl rfl ⟨⟨_, rfl⟩, trivial⟩ (fun hg22 => Pu_loadb rfl Try.isAgg4 rfl rfl rfl)) rfl (by decide) (by kernel_rfl) (by intro j b oj dj h1 h2 h3; cases h1; cases h2; cases h3; decide) ?_
  refine Al_st (St_gd [22] rfl rfl rfl rfl ⟨⟨_, rfl⟩, trivial⟩ (fun hg23 => Pu_not rfl rfl)) rfl (by decide) (by kernel_rfl) (by intro j b oj dj h1 h2 h3; cases h1; cases h2; cases h3; decide) ?_
  refine Al_p (Pu_and rfl rfl rfl rfl) ?_
  refine Al_nil ?_
  refine Aw_cond rfl (fun h24 => ?_) (fun h24 => ?_)
  · (try simp only [decide_eq_true_eq, decide_eq_false_iff_not, Bool.and_eq_true, Bool.or_eq_true, Bool.and_eq_false_iff, Bool.or_eq_false_iff, Bool.not_eq_true', Bool.not_eq_false', beq_iff_eq, Bool.not_eq_eq_eq_not, Bool.not_true, Bool.not_false, List.length_map, Bool.and_true, Bool.and_false, Bool.false_and, Bool.true_and, Bool.or_false, Bool.false_or] at h24)
    have hst := L.qevents_step (s := s) (out := out) (p := pp) (show out.length < L.qnV s 4096 (0, false) by omega) h24.2
    have hgo' := hgo h24.2
    obtain ⟨hL1, hL2⟩ := hfit.last (L.qnV s 1000 (L.q1 s pp) : Nat)
    refine Aw_skip ?_
    -- join 0: live [0, 4, 5, 6, 7], turned [5]
    refine Aw_seq (Aw_block (Aw_seq (Aw_region ?_)))
    refine Al_p Pu_mvl ?_
    refine Al_mcall (rqnum_m s pp 2 (by omega) hpp (by omega)) rfl rfl rfl (by decide) (by kernel_rfl) rfl rfl ⟨Sub.rfl, trivial⟩ ?_
    refine Al_p (Pu_build (aa := [(0, _)]) rfl Try.underlying37 Try.zeroValue37 (places37 Try.underlying37) (by kernel_rfl) ⟨rfl, rfl, rfl, trivial⟩ rfl) ?_
    refine Al_alloc rfl rfl rfl (by decide) Try.zeroValue37 rfl (by kernel_rfl) (fun g8 => ?_)
    refine Al_storeN rfl rfl rfl (by kernel_rfl) Try.isAgg37 Try.sizeOf37 rfl rfl rfl rfl (Nat.le_of_ble_eq_true rfl) ?_
    refine Al_nil (Aw_seq (Aw_region ?_))
    refine Al_p Pu_mvl ?_
    refine Al_mcall (rqnum_m s (L.q1 s pp) 1000 (by omega) (L.q1_le hpp) (by omega)) rfl rfl rfl (by decide) (by kernel_rfl) rfl rfl ⟨Sub.rfl, trivial⟩ ?_
    refine Al_p (Pu_fieldb 1 rfl Try.underlying37 rfl rfl Try.sizeOf3 rfl) ?_
    refine Al_store1 rfl rfl rfl (by kernel_rfl) Try.isAgg3 Try.sizeOf3 rfl rfl (Nat.le_of_ble_eq_true rfl) (by conv => lhs; whnf) rfl ?_
    refine Al_nil (Aw_seq (Aw_region ?_))
    refine Al_p Pu_mvl ?_
    refine Al_mcall (rqtext_m s (L.q2 s pp) (by omega) (L.q2_le hpp)) rfl rfl rfl (by decide) (by kernel_rfl) rfl rfl trivial ?_
    refine Al_p (Pu_fieldb 2 rfl Try.underlying37 rfl rfl Try.sizeOf9 rfl) ?_
    refine Al_store1 rfl rfl rfl (by kernel_rfl) Try.isAgg9 Try.sizeOf9 rfl rfl (Nat.le_of_ble_eq_true rfl) (by conv => lhs; whnf) rfl ?_
    refine Al_nil (Aw_seq (Aw_region ?_))
    refine Al_p Pu_mvl ?_
    refine Al_mcall (rqnum_m s (L.q3 s pp) 1 (by omega) (L.q3_le hpp) (by omega)) rfl rfl rfl (by decide) (by kernel_rfl) rfl rfl ⟨Sub.rfl, trivial⟩ ?_
    refine Al_p Pu_mvr ?_
    refine Al_nil ?_
    refine Aw_join (ι := Unit) [0, 4, 5, 6, 7, 8] [5] (fun _ => []) (fun _ => [(8, g8, .box 37 [.d (iv (L.qnV s 2 pp : Nat)), .d (iv (L.qnV s 1000 (L.q1 s pp) : Nat)), .d (tv (L.qtV s (L.q2 s pp))), .d (iv (L.qN s pp : Nat)), .d (iv (L.qI s pp : Nat)), .d (.v (.slice none 0 0))]), (12, g12, .box 51 ((L.qcs s (L.q5 s pp)).map .d))]) (fun _ => True) ?_ ?_ -- join 1
    · refine Aw_seq (Aw_region ?_)
      refine Al_p Pu_mvl ?_
      refine Al_p (Pu_cmp rfl rfl rfl rfl) ?_
      refine Al_nil ?_
      refine Aw_cond rfl (fun h39 => ?_) (fun h39 => ?_)
      · (try simp only [decide_eq_true_eq, decide_eq_false_iff_not, Bool.and_eq_true, Bool.or_eq_true, Bool.and_eq_false_iff, Bool.or_eq_false_iff, Bool.not_eq_true', Bool.not_eq_false', beq_iff_eq, Bool.not_eq_eq_eq_not, Bool.not_true, Bool.not_false, List.length_map, Bool.and_true, Bool.and_false, Bool.false_and, Bool.true_and, Bool.or_false, Bool.false_or] at h39)
        have hf : L.qF s pp = 1 := by show L.qnV s 1 (L.q3 s pp) = 1; omega
        refine Aw_region ?_
        refine Al_p Pu_mvl ?_
        refine Al_mcall (rqstamp_m s (L.q4 s pp) (by omega) (L.q4_le hpp)) rfl rfl rfl (by decide) (by kernel_rfl) rfl rfl trivial ?_
        refine Al_p (Pu_fieldb 3 rfl Try.underlying37 rfl rfl Try.sizeOf34 rfl) ?_
        refine Al_storeN rfl rfl rfl (by kernel_rfl) Try.isAgg34 Try.sizeOf34 rfl rfl rfl rfl (Nat.le_of_ble_eq_true rfl) ?_
        refine Al_nil ?_
        exact ⟨(), trivial, Le.ov trivial ⟨Sub.rfl, Sub.rfl, Sub.rfl, Sub.rfl, Sub.rfl, Sub.rfl, trivial⟩ ⟨(by rw [show L.qN s pp = _ from if_pos hf, show L.qI s pp = _ from if_pos hf]; rfl), (by rw [show L.q5 s pp = _ from if_pos hf]; rfl), trivial⟩ ⟨rfl, trivial⟩⟩ -- join 1 next.0
      · (try simp only [decide_eq_true_eq, decide_eq_false_iff_not, Bool.and_eq_true, Bool.or_eq_true, Bool.and_eq_false_iff, Bool.or_eq_false_iff, Bool.not_eq_true', Bool.not_eq_false', beq_iff_eq, Bool.not_eq_eq_eq_not, Bool.not_true, Bool.not_false, List.length_map, Bool.and_true, Bool.and_false, Bool.false_and, Bool.true_and, Bool.or_false, Bool.false_or] at h39)
        have hf : ¬ L.qF s pp = 1 := by show ¬ L.qnV s 1 (L.q3 s pp) = 1; omega
        refine Aw_skip ?_
        exact ⟨(), trivial, Le.ov trivial ⟨Sub.rfl, Sub.rfl, Sub.rfl, Sub.rfl, Sub.rfl, Sub.rfl, trivial⟩ ⟨(by rw [show L.qN s pp = _ from if_neg hf, show L.qI s pp = _ from if_neg hf]; rfl), (by rw [show L.q5 s pp = _ from if_neg hf]; rfl), trivial⟩ ⟨rfl, trivial⟩⟩ -- join 1 next.1
    · rintro _ hj1
      refine Aw_seq ?_
      refine Aw_boxle (k := 8) [.d (iv (L.qnV s 2 pp : Nat)), .d (iv (L.qnV s 1000 (L.q1 s pp) : Nat)), .d (tv (L.qtV s (L.q2 s pp))), .d (iv (L.qN s pp : Nat)), .d (iv (L.qI s pp : Nat)), .d (.sl 3 [])] rfl ⟨Sub.rfl, Sub.rfl, Sub.rfl, Sub.rfl, Sub.rfl, Sub.nil, trivial⟩ ?_
      refine Aw_region ?_
      refine Al_p Pu_mvl ?_
      refine Al_p (Pu_loadbN (r := [_, _, _, _, _, _]) rfl Try.isAgg37 Try.sizeOf37 rfl rfl rfl rfl) ?_
      refine Al_p (Pu_slice1 rfl Try.underlying22 Try.sizeOf37 Try.zeroValue37 rfl (by decide) (by decide) (by kernel_rfl) rfl rfl rfl) ?_
      refine Al_append rfl rfl rfl (by decide) (by kernel_rfl) elem22 (by decide) Try.sizeOf37 rfl rfl rfl (by simp; omega) (by decide) (fun g46 => ?_)
      refine Al_p Pu_mvr ?_
      refine Al_nil (Aw_region ?_)
      refine Al_p Pu_mvl ?_
      refine Al_p Pu_mvl ?_
      refine Al_p Pu_mvl ?_
      refine Al_p Pu_mvl ?_
      refine Al_p Pu_mvl ?_
      refine Al_gcall [(1001, 5, g46)] [] (rlast2_g out (L.qev s pp [])) rfl rfl rfl (by decide) (by kernel_rfl) ⟨obeq (by rw [List.map_append]; rfl), trivial⟩ rfl ⟨Sub.rfl, Sub.rfl, trivial⟩ (fun g52 => ?_)
      refine Al_mcall (rqseen_m s (L.q5 s pp) (L.lastM (fun _ => []) out (L.qnV s 1000 (L.q1 s pp) : Nat)) (by omega) (L.q5_le hpp) (by have := L.qnV_le s 4096 (0, false); omega)) rfl rfl rfl (by decide) (by kernel_rfl) rfl rfl ⟨Sub.rfl, trivial⟩ ?_
      refine Al_p (Pu_indexOw (j := out.length) rfl Try.underlying22 Try.sizeOf37 rfl rfl rfl rfl (by simp)) ?_
      refine Al_p (Pu_fieldb 5 rfl Try.underlying37 rfl rfl Try.sizeOf35 rfl) ?_
      refine Al_storeArr ((out ++ [L.qevent s out pp]).map Event.row) rfl rfl rfl (by kernel_rfl) Try.sizeOf35 rfl rfl rfl rfl rfl (by simp; omega) (by simp) (fun q hq => by obtain ⟨x, _, rfl⟩ := List.mem_map.1 hq; rfl) (L.set_last (out := out) (e := L.qev s pp []) (e' := L.qevent s out pp) _ rfl rfl) ?_
      refine Al_nil (Aw_region ?_)
      refine Al_p Pu_mvl ?_
      refine Al_p (Pu_add rfl rfl rfl (fun h1 h2 => by simp only [A.inI, A.maxI] at *; omega)) ?_
      refine Al_p Pu_mvr ?_
      refine Al_nil ?_
      exact ⟨(out.length + 1, out ++ [L.qevent s out pp], L.q6 s pp, g46), ⟨by omega, by simp, L.q6_le hpp, by rw [← hst]; exact hall, hfit.next hpp, fun hb => by have := L.q6_go hb; omega⟩, by simp only []; omega, Le.ov ⟨Sub.num (by omega), Sub.rfl, trivial⟩ ⟨Sub.rfl, Sub.rfl, Sub.rfl, trivial⟩ ⟨rfl, rfl, trivial⟩ trivial⟩ -- loop 0 next.0
  · (try simp only [decide_eq_true_eq, decide_eq_false_iff_not, Bool.and_eq_true, Bool.or_eq_true, Bool.and_eq_false_iff, Bool.or_eq_false_iff, Bool.not_eq_true', Bool.not_eq_false', beq_iff_eq, Bool.not_eq_eq_eq_not, Bool.not_true, Bool.not_false, List.length_map, Bool.and_true, Bool.and_false, Bool.false_and, Bool.true_and, Bool.or_false, Bool.false_or] at h24)
    have hen := L.qevents_end (s := s) (n := L.qnV s 4096 (0, false)) (i := out.length) (out := out) (p := pp) (fun hc => h24.elim (fun h => h (by omega)) fun h => by rw [h] at hc; cases hc.2) hi
    rw [hen] at hall
    refine Aw_exit (Aw_seq (Aw_seq (Aw_region ?_)))
    refine Al_p Pu_mvl ?_
    refine Al_p (Pu_nilb rfl rfl) ?_
    refine Al_p (Pu_fieldb 2 rfl Try.underlying51 rfl rfl Try.sizeOf4 rfl) ?_
    refine Al_p (Pu_loadb rfl Try.isAgg4 rfl rfl rfl) ?_
    refine Al_p Pu_mvl ?_
    refine Al_st (St_gd [] rfl rfl rfl rfl trivial (fun hg61 => by exact Pu_move (.inl rfl) (by conv => lhs; whnf))) rfl (by decide) (by kernel_rfl) (by intro j b oj dj h1 h2 h3; cases h1; cases h2; cases h3; decide) ?_
    refine Al_st (St_gd [61] rfl rfl rfl rfl ⟨⟨_, rfl⟩, trivial⟩ (fun hg62 => by exact Pu_callR (rbytes_a out (by have := hgo hg62; omega) hfit.fit) rfl rfl ⟨.inr ⟨5, g, _, _, _, rfl, rfl, rfl⟩, trivial⟩)) rfl (by decide) (by kernel_rfl) (by intro j b oj dj h1 h2 h3; cases h1; cases h2; cases h3; decide) ?_
    refine Al_st (St_gd [] rfl rfl rfl rfl trivial (fun hg63 => by exact Pu_move (.inl rfl) (by conv => lhs; whnf))) rfl (by decide) (by kernel_rfl) (by intro j b oj dj h1 h2 h3; cases h1; cases h2; cases h3; decide) ?_
    refine Al_st (St_gd [62, 63] rfl rfl rfl rfl ⟨⟨_, rfl⟩, ⟨_, rfl⟩, trivial⟩ (fun hg64 => Pu_str rfl rfl rfl rfl)) rfl (by decide) (by kernel_rfl) (by intro j b oj dj h1 h2 h3; cases h1; cases h2; cases h3; decide) ?_
    refine Al_p (Pu_or rfl rfl rfl rfl) ?_
    refine Al_nil ?_
    refine Aw_cond rfl (fun h65 => ?_) (fun h65 => ?_)
    · skip
      have hq : L.qread s = none := by
        unfold L.qread
        rw [← hall]
        cases hb : pp.2 with
        | true => rfl
        | false =>
          rw [hb, Bool.false_or] at h65
          rw [if_neg (by simp), if_neg]
          intro e
          rw [e, V.ba_data] at h65
          simp at h65
      refine Aw_seq (Aw_region ?_)
      refine Al_p Pu_mvr ?_
      refine Al_p Pu_mvr ?_
      refine Al_nil ?_
      refine Aw_ret ?_
      exact ⟨_, _, by unfold L.qreadA; rw [hq], Sub.nil, Sub.rfl⟩ -- ret 0
    · skip
      have hq : L.qread s = some out := by
        rw [Bool.or_eq_false_iff] at h65
        unfold L.qread
        rw [← hall, h65.1, if_neg (by simp), if_pos]
        have h2 : V.ba (L.bytes out) = s := V.toList_eq (by simpa using h65.2)
        rw [← h2, V.data_ba]
      refine Aw_skip (Aw_seq (Aw_region ?_))
      refine Al_p Pu_mvl ?_
      refine Al_p Pu_mvr ?_
      refine Al_p Pu_mvr ?_
      refine Al_nil ?_
      refine Aw_frz hnl (k := 5) [2] rfl ⟨rfl, trivial⟩ ?_
      refine Aw_ret ?_
      exact ⟨_, _, by unfold L.qreadA; rw [hq], Sub.rfl, Sub.rfl⟩ -- ret 1
end Go.Proofs.Ytlcahhlghjbnkaa
end

section
namespace Go.Proofs.Ytlcahhlghjbnkaa.A
open Go Go.RowKit
abbrev byteA (bs : List UInt8) : List (List AV) := colA (fun c : UInt8 => Value.int .u8 c.toNat) bs
section
variable {P : Program} {N : Nat} {M0 : Nat → Prop} {w0 : Base} {ops : Array Oper} {Q : Exit → ASt → Prop} {o : Oper} {l : List Oper} {st : ASt}
theorem byteA_at {bs : List UInt8} {i : Nat} (hi : i < bs.length) : (byteA bs)[i]? = some [.v (.int .u8 bs[i].toNat)] := by simp [byteA, colA, hi]
theorem byteA_len (bs : List UInt8) : (byteA bs).length = bs.length := by simp [byteA, colA]
theorem Pu_convBS {f t e : TypeId} {x : Operand} {bs : List UInt8} (ho : o.op = .convert f t x) (hf : P.underlying f = some (.slice e)) (he : P.underlying e = some (.int .u8)) (ht : P.underlying t = some .string) (hx : st.ev x = .d (.sl 1 (byteA bs))) : Pu P st o (.d (tv (V.ba bs))) := Pu_q fun B M ρ w a h2 _ => by
  have hm := h2 x (by simp [opsOf, ho, Op.operands])
  rw [hx] at hm
  have key : ∃ v, (convert f t (a.eval x)).run P w = .ok (.string (V.ba bs)) w ∧ bs.length ≤ maxI ∧ v = a.eval x := by
    have hm' : Rep M w (.sl 1 (byteA bs)) (a.eval x) := hm
    generalize a.eval x = y at hm'
    generalize hbl : byteA bs = rows at hm'
    have hlen : rows.length = bs.length := by rw [← hbl, byteA_len]
    cases hm' with
    | nil n a c =>
      have h0 : bs = [] := List.eq_nil_of_length_eq_zero (by simpa using hlen.symm)
      subst h0
      refine ⟨_, ?_, by simp, rfl⟩
      cases a with
      | none => exact run_convert_bytes_nil w f e hf he 0 c t ht
      | some a => exact run_convert_bytes_back w f t e a c [] hf he ht (fun j hj => by simp at hj)
    | sl n rows b o' cap g hl hcap hn hc hr =>
      refine ⟨_, ?_, by omega, rfl⟩
      have h := run_convert_bytes_back (P := P) w f t e ⟨b, o', none⟩ cap bs hf he ht (fun j hj => by
        have hat : rows[j]? = some [.v (.int .u8 bs[j].toNat)] := by rw [← hbl]; exact byteA_at hj
        obtain ⟨_, h5, _⟩ := hc j _ 0 _ hat rfl
        have h6 := hr j _ 0 _ hat rfl
        have h7 := (rep_v (ρ := fun _ _ => none) (show SRep M w (fun _ _ => none) (.d (.v (.int .u8 bs[j].toNat))) (g j 0) from h6)).1
        rw [h7] at h5
        rw [add_addr]
        rw [show o' + j * 1 + 0 = o' + j from by omega] at h5
        exact h5)
      rw [hlen]; exact h
  obtain ⟨v, h3, h4, _⟩ := key
  refine ⟨.string (V.ba bs), ?_, .v _ (by show (V.ba bs).size ≤ maxI; rw [A.ba_sz]; exact h4)⟩
  simp only [execOp, ho, Sem.run_bind, h3, Result.andThen_ok, Sem.run_pure]
end
end Go.Proofs.Ytlcahhlghjbnkaa.A
end

section
namespace Go.Proofs.Ytlcahhlghjbnkaa.A
open Go Go.RowKit
/-- Bytes that were made of a text. -/
def BI (b : Nat) (e : TypeId) (l : List UInt8) : OP where
  F := fun c => c = b
  I := fun _ w _ h => ∃ cap vs, h = .slice (some ⟨b, 0, none⟩) l.length cap ∧ w.heap[b]? = some (.cells vs e (vs.size, vs.size + 1)) ∧ l.length ≤ vs.size ∧ l.length ≤ maxI ∧ ∀ (j : Nat) (x : UInt8), l[j]? = some x → vs[j]? = some (.int .u8 x.toNat)
  mono := fun _ hF h => by
    obtain ⟨cap, vs, h1, h2, h3⟩ := h
    exact ⟨cap, vs, h1, by rw [hF b rfl]; exact h2, h3⟩
  rho := fun _ h => h
  lt := fun h c hc => by
    obtain ⟨cap, vs, h1, h2, h3⟩ := h
    subst hc
    exact (Array.getElem?_eq_some_iff.1 h2).1
section
variable {P : Program} {N : Nat} {M0 : Nat → Prop} {w0 : Base} {ops : Array Oper} {Q : Exit → ASt → Prop} {o : Oper} {l : List Oper} {st : ASt}
theorem bytesRow_at {s : ByteArray} {cap j : Nat} {x : UInt8} (h : s.data.toList[j]? = some x) : (bytesRow s cap)[j]? = some (.int .u8 x.toNat) := by
  have hj : j < s.data.size := by
    have := (List.getElem?_eq_some_iff.1 h).1
    simpa using this
  unfold bytesRow
  rw [Array.getElem?_append_left (by simpa using hj), Array.getElem?_map]
  rw [Array.getElem?_toList] at h
  rw [h]; rfl
theorem Al_convSB {d : Nat} {f t e : TypeId} {x : Operand} {s : ByteArray} (ho : o.op = .convert f t x) (hg : o.guard = none) (hd : o.dst = some d) (hN : d < N) (hc : conB o = true) (hf : P.underlying f = some .string) (ht : P.underlying t = some (.slice e)) (he : P.underlying e = some (.int .u8)) (hx : st.ev x = .d (tv s))
    (h : ∀ g b, Al P N M0 w0 ops Q l ((st.put d g (.op (BI b e s.data.toList))).set d (.ow d g))) : Al P N M0 w0 ops Q (o :: l) st := by
  refine ⟨?_⟩
  rintro a w ⟨ρ, hsim⟩
  have hm := hsim.ev hc x (by simp [opsOf, ho, Op.operands])
  rw [hx] at hm
  obtain ⟨hy, hv⟩ := rep_v hm
  have hsz : s.size ≤ maxI := hv
  obtain ⟨cap, hcap⟩ : ∃ cap, cap = grownCap w s.size 0 e := ⟨_, rfl⟩
  have hrun := run_bytes_of_string (P := P) w f t e s hf ht he
  rw [← hcap] at hrun
  obtain ⟨w', hw'⟩ : ∃ w', w' = w.drew.alloc (.cells (bytesRow s cap) e ((bytesRow s cap).size, (bytesRow s cap).size + 1)) := ⟨_, rfl⟩
  rw [← hw'] at hrun
  have hE : Ev.Ext w w' := by
    rw [hw']
    exact (Below.refl _ _).drew.alloc (Nat.le_refl _) _
  obtain ⟨g', ρ', k1, k2⟩ := hsim.upd (w' := w') d ⟨by rw [hw']; rfl, by rw [hw']; rfl, by rw [hw']; rfl⟩ hE.size (fun b hb _ => hE.block b hb) (x' := .slice (some ⟨w.heap.size, 0, none⟩) s.size cap) (o' := .op (BI w.heap.size e s.data.toList)) (fun b hb => .inl (Nat.le_of_eq (show b = w.heap.size from hb).symm))
    (fun M' ρ' hK _ => ⟨fun b hb => .inl (by rw [show b = w.heap.size from hb]; exact hsim.ext.size), cap, bytesRow s cap, by rw [Array.length_toList]; rfl, by
      rw [hw']; exact heap_alloc_new _ _, by rw [Array.length_toList]; simp [bytesRow], by rw [Array.length_toList]; exact hsz, fun j x hj => bytesRow_at hj⟩)
  refine wpList_plain hg fun K hK => wp_upon ?_
  have e' : (execOp a.eval o).run P w = .ok (.value (.slice (some ⟨w.heap.size, 0, none⟩) s.size cap)) w' := by
    simp only [execOp, ho, Sem.run_bind, hy, hrun, Result.andThen_ok, Sem.run_pure]
  rw [e']
  refine hK _ _ ((h g' w.heap.size).out _ _ ⟨ρ', ?_⟩)
  rw [hd]
  exact k1.set hN ⟨k2, rfl⟩
theorem Pu_lenB {x : Operand} {t e : TypeId} {k g b m : Nat} {bs : List UInt8} (ho : o.op = .call ⟨.builtin .len, #[x], #[t]⟩) (ht : P.underlying t = some (.slice e)) (hx : st.ev x = .ow k g) (hob : st.ob k = some (g, .op (BI b e bs))) (hm : bs.length = m) : Pu P st o (.d (.v (.int .i64 m))) := Pu_q fun B M ρ w a h2 h3 => by
  subst hm
  have hm := h2 x (mem_call ho x (by simp))
  rw [hx] at hm
  obtain ⟨v, h4, _, cap, vs, rfl, h6, h7, hl, _⟩ := h3 k g _ hob
  have hy : a.eval x = .slice (some ⟨b, 0, none⟩) bs.length cap := by
    have := hm.1
    rw [h4] at this
    exact (Option.some.inj this).symm
  refine ⟨.int .i64 bs.length, ?_, .v _ ?_⟩
  · simp [execOp, ho, resolve, invoke, builtin, Builtin.len_, hy, run_underlying ht, Sem.run, goInt]
  · unfold maxI at hl; simp [vok, inI]; omega
theorem Pu_indexB {t e : TypeId} {x i : Operand} {k g b j : Nat} {z : Int} {bs : List UInt8} (ho : o.op = .indexAddr t x i) (ht : P.underlying t = some (.slice e)) (hz : ∀ w, (sizeOf e).run P w = .ok 1 w) (hx : st.ev x = .ow k g) (hi : st.ev i = .d (.v (.int .i64 z))) (hob : st.ob k = some (g, .op (BI b e bs))) (hk : z = j) (hj : j < bs.length) : Pu P st o (.bx k g (j * 1)) := Pu_q fun B M ρ w a h2 h3 => by
  have m : x ∈ opsOf o ∧ i ∈ opsOf o := by simp [opsOf, ho, Op.operands]
  obtain ⟨e2, _⟩ := ev_v h2 m.2 hi
  have hm := h2 x m.1
  rw [hx] at hm
  obtain ⟨v, h4, _, cap, vs, rfl, h6, h7, hl, _⟩ := h3 k g _ hob
  have hy : a.eval x = .slice (some ⟨b, 0, none⟩) bs.length cap := by
    have := hm.1
    rw [h4] at this
    exact (Option.some.inj this).symm
  subst hk
  refine ⟨.pointer (some ⟨b, j * 1, none⟩), ?_, _, b, h4, rfl, rfl⟩
  simp only [execOp, ho, hy, e2, Instr.indexAt, Instr.sureAddr, Sem.run_bind, asIntOf, Sem.run_pure, Result.andThen_ok, run_underlying ht]
  rw [if_pos ⟨by omega, by omega⟩]
  simp only [Sem.run_bind, hz, Result.andThen_ok, Int.toNat_natCast, add_addr, Sem.run_pure, Nat.zero_add]
theorem Pu_loadB {t e : TypeId} {x : Operand} {k g b off : Nat} {bs : List UInt8} {c : UInt8} (ho : o.op = .load t x) (ht : ∀ w, (isAgg t).run P w = .ok false w) (hx : st.ev x = .bx k g off) (hob : st.ob k = some (g, .op (BI b e bs))) (hs : bs[off]? = some c) : Pu P st o (.d (.v (.int .u8 c.toNat))) := Pu_q fun B M ρ w a h2 h3 => by
  have hm := h2 x (by simp [opsOf, ho, Op.operands])
  rw [hx] at hm
  obtain ⟨y, b', h4, h5, h6⟩ := hm
  obtain ⟨y', h7, _, cap, vs, rfl, hg, hl, hl2, hat⟩ := h3 k g _ hob
  rw [h4] at h7; cases h7
  simp only [blk, Option.some.injEq] at h5
  subst h5
  have hv := hat off c hs
  have hlt := UInt8.toNat_lt c
  refine ⟨_, ?_, .v _ (show vok (.int .u8 (c.toNat : Int)) by constructor <;> omega)⟩
  have hc : w.cell? ⟨b, off, none⟩ = some (.int .u8 c.toNat) := by simp [World.cell?, hg, hv]
  simp [execOp, ho, h6, Instr.loadAt, Instr.sureAddr, loadVar, ht, load, Sem.run, hc, Sem.run_bind]
theorem Al_storeB {t e : TypeId} {x y : Operand} {k g b off : Nat} {bs : List UInt8} (c : UInt8) (ho : o.op = .store t x y) (hg : o.guard = none) (hd : o.dst = none) (hc : conB o = true) (hz : ∀ w, (sizeOf t).run P w = .ok 1 w) (hx : st.ev x = .bx k g off) (hob : st.ob k = some (g, .op (BI b e bs))) (hoff : off < bs.length) (hy : st.ev y = .d (.v (.int .u8 c.toNat)))
    (h : Al P N M0 w0 ops Q l (st.put k g (.op (BI b e (bs.set off c))))) : Al P N M0 w0 ops Q (o :: l) st := by
  refine ⟨?_⟩
  rintro a w ⟨ρ, hsim⟩
  have hmem : x ∈ opsOf o ∧ y ∈ opsOf o := by simp [opsOf, ho, Op.operands]
  have hmx := hsim.ev hc x hmem.1
  have hmy := hsim.ev hc y hmem.2
  rw [hx] at hmx
  rw [hy] at hmy
  obtain ⟨hyv, _⟩ := rep_v hmy
  obtain ⟨u, b', h4, h5, h6⟩ := hmx
  obtain ⟨u', h7, hB, cap, vs, rfl, h9, h10, h11, hat⟩ := hsim.obj k g _ hob
  rw [h4] at h7; cases h7
  simp only [blk, Option.some.injEq] at h5
  subst h5
  have hlt : off < vs.size := by omega
  have hc1 : w.cell? ⟨b, off, none⟩ = some vs[off] := by simp [World.cell?, h9, hlt]
  have hfz : w.frozen? ⟨b, off, none⟩ = false := by simp [World.frozen?, h9]; omega
  have hnew : (w.setCell ⟨b, off, none⟩ (a.eval y)).heap[b]? = some (.cells (vs.setIfInBounds off (a.eval y)) e (vs.size, vs.size + 1)) := by simp [World.setCell, Array.getElem?_modify, h9]
  have hs2 := hsim.mod (w' := w.setCell ⟨b, off, none⟩ (a.eval y)) hob h4 ⟨rfl, rfl, rfl⟩ (by simp [World.setCell]) (fun b' hb hne => Below.heap_setCell _ _ _ _ (fun e => hne (show b' = b from e))) (o' := .op (BI b e (bs.set off c))) (fun M' hK _ => ⟨hB, cap, vs.setIfInBounds off (a.eval y), by rw [List.length_set], by rw [hnew, Array.size_setIfInBounds], by rw [List.length_set, Array.size_setIfInBounds]; exact h10, by rw [List.length_set]; exact h11, fun j z hz' => by
    rw [List.getElem?_set] at hz'
    rw [Array.getElem?_setIfInBounds]
    by_cases e : off = j
    · subst e
      rw [if_pos rfl, if_pos hoff] at hz'
      rw [if_pos rfl, if_pos hlt]
      simp only [Option.some.injEq] at hz'
      subst hz'
      rw [hyv]
    · rw [if_neg e] at hz'
      rw [if_neg e]
      exact hat j z hz'⟩)
  refine wpList_plain hg fun K hK => wp_upon ?_
  have e : (execOp a.eval o).run P w = .ok .skip (w.setCell ⟨b, off, none⟩ (a.eval y)) := by
    have hst : (store (⟨b, off, none⟩ : Addr) (a.eval y)).run P w = .ok () (w.setCell ⟨b, off, none⟩ (a.eval y)) := by
      rw [hyv]
      simp_all [store, Sem.run]
    have hone : (a.eval y).cells = #[a.eval y] := by rw [hyv]; rfl
    simp only [execOp, ho, h6, Instr.storeAt, Instr.sureAddr, storeVar, Sem.run_bind, Sem.run_pure, Result.andThen_ok, hz, hone]
    simp [storeCells, Sem.run_bind, Addr.add, hst]
  rw [e]
  refine hK _ _ (h.out _ _ ⟨ρ, ?_⟩)
  rw [hd]
  exact hs2
theorem Pu_convB {f t e : TypeId} {x : Operand} {k g b : Nat} {bs : List UInt8} (ho : o.op = .convert f t x) (hf : P.underlying f = some (.slice e)) (he : P.underlying e = some (.int .u8)) (ht : P.underlying t = some .string) (hx : st.ev x = .ow k g) (hob : st.ob k = some (g, .op (BI b e bs))) : Pu P st o (.d (tv (V.ba bs))) := Pu_q fun B M ρ w a h2 h3 => by
  have hm := h2 x (by simp [opsOf, ho, Op.operands])
  rw [hx] at hm
  obtain ⟨v, h4, _, cap, vs, rfl, h6, h7, hl, hat⟩ := h3 k g _ hob
  have hy : a.eval x = .slice (some ⟨b, 0, none⟩) bs.length cap := by
    have := hm.1
    rw [h4] at this
    exact (Option.some.inj this).symm
  have hrun := run_convert_bytes_back (P := P) w f t e ⟨b, 0, none⟩ cap bs hf he ht (fun j hj => by
    have := hat j bs[j] (by simp [hj])
    rw [add_addr, Nat.zero_add]
    simp [World.cell?, h6, this])
  refine ⟨.string (V.ba bs), ?_, .v _ (by show (V.ba bs).size ≤ maxI; rw [A.ba_sz]; exact hl)⟩
  simp only [execOp, ho, hy, Sem.run_bind, hrun, Result.andThen_ok, Sem.run_pure]
end
end Go.Proofs.Ytlcahhlghjbnkaa.A
end

section
namespace Go.Proofs.Ytlcahhlghjbnkaa.A
open Go Go.RowKit
variable {P : Program} {st : ASt} {o : Oper}
theorem Pu_int_and {t yt : TypeId} {x y : Operand} {k : IntKind} {a b r : Int} (ho : o.op = .binOp .and t x y yt) (hx : st.ev x = .d (.v (.int k a))) (hy : st.ev y = .d (.v (.int k b))) (hr : k.wrap (BitVec.ofInt k.bits a &&& BitVec.ofInt k.bits b).toNat = r) (hv : vok (.int k a) → vok (.int k r)) : Pu P st o (.d (.v (.int k r))) :=
  Pu_bin ho hx hy (fun h1 h2 w => by
    simp only [Sem.run_bind, guard_int, Result.andThen_ok, binOp]; simp only [Op.intBits, hr, ne_eq, not_true_eq_false, if_false, Sem.run_pure]) (fun h _ => hv h)
theorem Pu_int_xor {t yt : TypeId} {x y : Operand} {k : IntKind} {a b r : Int} (ho : o.op = .binOp .xor t x y yt) (hx : st.ev x = .d (.v (.int k a))) (hy : st.ev y = .d (.v (.int k b))) (hr : k.wrap (BitVec.ofInt k.bits a ^^^ BitVec.ofInt k.bits b).toNat = r) (hv : vok (.int k a) → vok (.int k r)) : Pu P st o (.d (.v (.int k r))) :=
  Pu_bin ho hx hy (fun h1 h2 w => by
    simp only [Sem.run_bind, guard_int, Result.andThen_ok, binOp]; simp only [Op.intBits, hr, ne_eq, not_true_eq_false, if_false, Sem.run_pure]) (fun h _ => hv h)
theorem Pu_convW {f t : TypeId} {x : Operand} {k k' k2 : IntKind} {a r : Int} (ho : o.op = .convert f t x) (hf : P.underlying f = some (.int k2)) (ht : P.underlying t = some (.int k')) (hx : st.ev x = .d (.v (.int k a))) (hw : k'.wrap a = r) (hv : vok (.int k' r)) : Pu P st o (.d (.v (.int k' r))) := Pu_q fun B M ρ w a2 h2 _ => by
  obtain ⟨e1, k1⟩ := ev_v h2 (x := x) (by simp [opsOf, ho, Op.operands]) hx
  refine ⟨.int k' r, ?_, .v _ hv⟩
  simp only [execOp, ho, e1, convert, Sem.run_bind, run_underlying hf, run_underlying ht, Result.andThen_ok, Conv.intToInt, hw, Sem.run_pure]
end Go.Proofs.Ytlcahhlghjbnkaa.A
namespace Go.Proofs.Ytlcahhlghjbnkaa.V
open Go.RowKit A R
theorem i64_ok (z : Int) : vok (.int .i64 (IntKind.i64.wrap z)) := by
  show A.inI _
  rw [IntKind.wrap_i64]
  simp only [A.inI]; omega
end Go.Proofs.Ytlcahhlghjbnkaa.V
end

section
namespace Go.Proofs.Ytlcahhlghjbnkaa
open Go.RowKit A R
namespace L
def u8of (z : Int) : UInt8 := UInt8.ofNat (z % 256).toNat
theorem u8of_eq (z : Int) : IntKind.u8.wrap z = ((u8of z).toNat : Int) := by
  have h : (u8of z).toNat = (z % 256).toNat := by unfold u8of; simp; omega
  rw [h, IntKind.wrap_u8]; omega
theorem byte_ok (c : UInt8) : vok (.int .u8 (c.toNat : Int)) := by
  have := UInt8.toNat_lt c
  constructor <;> omega
theorem cut_le (s : ByteArray) (k : Nat) (h : s.size ≤ 5000) : (s.extract 0 k).size ≤ 5000 := by
  rw [ByteArray.size_extract]; omega
theorem flat_le {α : Type} (f : α → List UInt8) (B : Nat) : ∀ l : List α, (∀ x ∈ l, (f x).length ≤ B) → (l.flatMap f).length ≤ B * l.length
  | [], _ => by simp
  | x :: r, h => by
    have h1 := h x (List.mem_cons_self ..)
    have h2 := flat_le f B r fun y hy => h y (List.mem_cons_of_mem _ hy)
    rw [List.flatMap_cons, List.length_append, List.length_cons, Nat.mul_succ]; omega
/-- Small events. -/
structure Fine (l : List Dep) : Prop where
  len : l.length ≤ 5
  key : ∀ d ∈ l, d.key.size ≤ 12
theorem dep_le {d : Dep} (h : d.key.size ≤ 12) : (depBytes d).length ≤ 42 ∧ (V.text d.key).length ≤ 22 := by
  have h1 := stamp_len d.n d.s
  have h2 := V.num_len64 (n := d.key.size) (by omega)
  have hs : d.key.data.size = d.key.size := rfl
  unfold depBytes V.text
  simp only [List.length_append, Array.length_toList]
  omega
theorem part_le {e : Event} {ahead : List Dep} (h : check e = true) (hk : e.key.size ≤ 12) (hs : Fine e.seen) (ha : Fine ahead) : (part e ahead).length ≤ 450 := by
  obtain ⟨⟨k, c, e1, e2, e3, e4⟩, _⟩ := check_all h
  have m1 : (more e ahead).length ≤ 5 := Nat.le_trans (List.length_filter_le _ _) hs.len
  have m2 : (less e ahead).length ≤ 5 := Nat.le_trans (List.length_filter_le _ _) ha.len
  have n1 := flat_le depBytes 42 (more e ahead) fun d hd => (dep_le (hs.key d (List.mem_filter.1 hd).1)).1
  have n2 := flat_le (fun d : Dep => V.text d.key) 22 (less e ahead) fun d hd => (dep_le (ha.key d (List.mem_filter.1 hd).1)).2
  have q1 := V.num_len64 (n := (more e ahead).length) (by omega)
  have q2 := V.num_len64 (n := (less e ahead).length) (by omega)
  have q3 := V.num_len64 (n := k) (by omega)
  have q4 := V.num_len64 (n := c) (by omega)
  have q6 : (stampOpt e.n e.s).length ≤ 30 := by
    have h0 := V.num_len64 (n := 0) (by omega)
    have h1 := V.num_len64 (n := 1) (by omega)
    have h2 := stamp_len e.n e.s
    unfold stampOpt
    split
    · omega
    · rw [List.length_append]; omega
  have q7 := (dep_le (d := ⟨e.key, 0, 0⟩) hk).2
  unfold part headBytes
  rw [e1, e2, show ((k : Int).toNat) = k from rfl, show ((c : Int).toNat) = c from rfl]
  simp only [List.length_append]
  simp only at q7
  omega
theorem partsF_le : ∀ (l : List Event) (m : Int → List Dep), (∀ e ∈ l, check e = true ∧ e.key.size ≤ 12 ∧ Fine e.seen) → (∀ c, Fine (m c)) → (cat (partsF m l)).length ≤ 450 * l.length
  | [], _, _, _ => by simp [partsF, cat]
  | e :: r, m, h, hm => by
    obtain ⟨h1, h2, h3⟩ := h e (List.mem_cons_self ..)
    have ih := partsF_le r (fun c => if c = e.client then e.seen else m c) (fun x hx => h x (List.mem_cons_of_mem _ hx)) fun c => by
      split
      · exact h3
      · exact hm c
    have hp := part_le h1 h2 h3 (hm e.client)
    unfold cat at ih ⊢
    rw [partsF, List.flatMap_cons, List.length_append, V.data_ba, List.length_cons, Nat.mul_succ]; omega
theorem good_bytes (l : List Event) : (bytes (good l)).length ≤ 4600 := by
  have hg := good_len l
  have hc := good_check l
  have hall : (good l).all check = true := List.all_eq_true.2 hc
  have hf : ∀ e ∈ good l, check e = true ∧ e.key.size ≤ 12 ∧ Fine e.seen := fun e he => by
    refine ⟨hc e he, ?_⟩
    have h1 := (List.mem_filter.1 he).1
    unfold few at h1
    obtain ⟨x, _, rfl⟩ := List.mem_map.1 h1
    refine ⟨cut_size _, ⟨?_, fun d hd => ?_⟩⟩
    · have := addsD_len (x.seen.take 5)
      rw [List.length_take] at this
      show (addsD (x.seen.take 5)).length ≤ 5
      omega
    · obtain ⟨y, _, rfl⟩ := addsD_mem _ d hd
      exact cut_size _
  have hp := partsF_le (good l) (fun _ => []) hf fun c => ⟨Nat.zero_le _, fun d hd => by cases hd⟩
  have hn := V.num_len64 (n := (good l).length) (by omega)
  unfold bytes parts
  rw [if_pos hall, if_pos hall, List.length_append]; omega
theorem readA_eq (l : List UInt8) : readA l = .tup [.sl 6 (((readL l).getD []).map Event.row), bv (readL l).isSome] := by
  unfold readA
  cases readL l <;> rfl
theorem qreadA_eq (s : ByteArray) : qreadA s = readA s.data.toList := by
  unfold qreadA readA
  rw [read_same]
  cases readL s.data.toList <;> rfl
theorem rem_in {z : Int} {n : Nat} (hn : 0 < n) (hn2 : n ≤ 1000000) (hz : A.inI z) : A.inI (z.tmod n) ∧ A.inI (z.tmod n + n) ∧ ∃ k : Nat, (z.tmod n + n).tmod n = (k : Int) ∧ k < n := by
  have h1 := Int.tmod_lt_of_pos z (show (0 : Int) < n by omega)
  have h2 : -(n : Int) < z.tmod n := by
    have h3 := Int.lt_tmod_of_pos z (show (0 : Int) < n by omega)
    omega
  have h4 := Int.tmod_nonneg (a := z.tmod n + n) n (by omega)
  have h5 := Int.tmod_lt_of_pos (z.tmod n + n) (show (0 : Int) < n by omega)
  refine ⟨by simp only [A.inI]; omega, by simp only [A.inI]; omega, ((z.tmod n + n).tmod n).toNat, by omega, by omega⟩
end L
set_option maxRecDepth 100000 in
set_option maxHeartbeats 2000000 in
theorem lreads_law (l : List Event) (s : ByteArray) (x y z : Int) : ACall Try.prog 3 [.sl 6 (l.map Event.row), tv s, .row [iv x, iv y, iv z]] (bv true) := by
  refine ACall_enter (fun _ _ => by kernel_rfl) Try.func3 rfl Try.ntmps3 Try.results3 (Nat.le_of_ble_eq_true rfl) (fun hok M0 w0 hnl => ?_)
  have hx : A.inI x := ((hok (.row [iv x, iv y, iv z]) (by simp)).row (iv x) (by simp)).int
  have hy : A.inI y := ((hok (.row [iv x, iv y, iv z]) (by simp)).row (iv y) (by simp)).int
  have hgl := L.good_len l
  have hgb := L.good_bytes l
  refine Aw_seq (Aw_region ?_)
  refine Al_boxN rfl rfl rfl (by decide) (by kernel_rfl) rfl (fun g5 => ?_)
  refine Al_p Pu_mvr ?_
  refine Al_nil (Aw_seq (Aw_region ?_))
  refine Al_p (Pu_call (lawake_a) rfl trivial) ?_
  refine Al_p Pu_mvr ?_
  refine Al_nil ?_
  refine Aw_join (ι := ByteArray) [0, 5, 7] [5] (fun s1 => [(1, .d (tv s1))]) (fun s1 => []) (fun s1 => s1.size ≤ 80) ?_ ?_ -- join 0
  · refine Aw_seq (Aw_region ?_)
    refine Al_p Pu_mvl ?_
    refine Al_p (Pu_lenS rfl Try.underlying9 rfl) ?_
    refine Al_p (Pu_cmp rfl rfl rfl rfl) ?_
    refine Al_nil ?_
    refine Aw_cond rfl (fun h18 => ?_) (fun h18 => ?_)
    · (try simp only [decide_eq_true_eq, decide_eq_false_iff_not, Bool.and_eq_true, Bool.or_eq_true, Bool.and_eq_false_iff, Bool.or_eq_false_iff, Bool.not_eq_true', Bool.not_eq_false', beq_iff_eq, Bool.not_eq_eq_eq_not, Bool.not_true, Bool.not_false, List.length_map, Bool.and_true, Bool.and_false, Bool.false_and, Bool.true_and, Bool.or_false, Bool.false_or] at h18)
      refine Aw_region ?_
      refine Al_p Pu_mvl ?_
      refine Al_p (Pu_subS (0) (80) rfl Try.underlying9 rfl rfl ⟨_, rfl, by omega⟩ ⟨by omega, by omega⟩) ?_
      refine Al_p Pu_mvr ?_
      refine Al_nil ?_
      exact ⟨(s.extract 0 80), by simp [ByteArray.size_extract]; omega, Le.ov ⟨Sub.rfl, trivial⟩ ⟨Sub.rfl, Sub.rfl, Sub.rfl, trivial⟩ trivial ⟨rfl, trivial⟩⟩ -- join 0 next.0
    · (try simp only [decide_eq_true_eq, decide_eq_false_iff_not, Bool.and_eq_true, Bool.or_eq_true, Bool.and_eq_false_iff, Bool.or_eq_false_iff, Bool.not_eq_true', Bool.not_eq_false', beq_iff_eq, Bool.not_eq_eq_eq_not, Bool.not_true, Bool.not_false, List.length_map, Bool.and_true, Bool.and_false, Bool.false_and, Bool.true_and, Bool.or_false, Bool.false_or] at h18)
      refine Aw_skip ?_
      exact ⟨s, by omega, Le.ov ⟨Sub.rfl, trivial⟩ ⟨Sub.rfl, Sub.rfl, Sub.rfl, trivial⟩ trivial ⟨rfl, trivial⟩⟩ -- join 0 next.1
  · rintro s1 hs1
    refine Aw_join (ι := ByteArray) [7] [] (fun s2 => [(1, .d (tv s2))]) (fun s2 => []) (fun s2 => s2.size ≤ 5000) ?_ ?_ -- join 1
    · refine Aw_seq (Aw_region ?_)
      refine Al_p (Pu_indexArrb (j := 0) rfl Try.underlying23 Try.sizeOf3 rfl rfl rfl (by decide)) ?_
      refine Al_p (Pu_loadb rfl Try.isAgg3 rfl rfl rfl) ?_
      refine Al_p (Pu_int_and rfl rfl rfl rfl (fun _ => V.i64_ok _)) ?_
      refine Al_p (Pu_cmp rfl rfl rfl rfl) ?_
      refine Al_nil ?_
      refine Aw_cond rfl (fun h24 => ?_) (fun h24 => ?_)
      · skip
        refine Aw_seq (Aw_region ?_)
        refine Al_p Pu_mvl ?_
        refine Al_p (Pu_call (good_a l) rfl ⟨Sub.rfl, trivial⟩) ?_
        refine Al_p (Pu_call (rbytes_a (L.good l) (by omega) (L.good_fit l)) rfl ⟨Sub.rfl, trivial⟩) ?_
        refine Al_convSB rfl rfl rfl (by decide) (by kernel_rfl) Try.underlying9 Try.underlying25 Try.underlying5 rfl fun g28 b28 => ?_
        refine Al_p Pu_mvr ?_
        refine Al_nil (Aw_seq (Aw_region ?_))
        refine Al_p Pu_mvl ?_
        refine Al_p (Pu_lenB (m := (L.bytes (L.good l)).length) rfl Try.underlying25 rfl rfl (by rw [V.data_ba])) ?_
        refine Al_p (Pu_cmp rfl rfl rfl rfl) ?_
        refine Al_nil ?_
        refine Aw_cond rfl (fun h31 => ?_) (fun h31 => ?_)
        · (try simp only [decide_eq_true_eq, decide_eq_false_iff_not, Bool.and_eq_true, Bool.or_eq_true, Bool.and_eq_false_iff, Bool.or_eq_false_iff, Bool.not_eq_true', Bool.not_eq_false', beq_iff_eq, Bool.not_eq_eq_eq_not, Bool.not_true, Bool.not_false, List.length_map, Bool.and_true, Bool.and_false, Bool.false_and, Bool.true_and, Bool.or_false, Bool.false_or] at h31)
          have hpos : 0 < (L.bytes (L.good l)).length := by omega
          obtain ⟨q1, q2, k, q3, q4⟩ := L.rem_in hpos (by omega) hy
          have hat : (V.ba (L.bytes (L.good l))).data.toList[k * 1]? = some ((L.bytes (L.good l))[k]'q4) := by rw [V.data_ba, Nat.mul_one]; simp [q4]
          refine Aw_seq (Aw_region ?_)
          refine Al_p (Pu_indexArrb (j := 1) rfl Try.underlying23 Try.sizeOf3 rfl rfl rfl (by decide)) ?_
          refine Al_p (Pu_loadb rfl Try.isAgg3 rfl rfl rfl) ?_
          refine Al_p Pu_mvl ?_
          refine Al_p (Pu_lenB (m := (L.bytes (L.good l)).length) rfl Try.underlying25 rfl rfl (by rw [V.data_ba])) ?_
          refine Al_p (Pu_rem rfl rfl rfl (by omega) rfl) ?_
          refine Al_p Pu_mvl ?_
          refine Al_p (Pu_lenB (m := (L.bytes (L.good l)).length) rfl Try.underlying25 rfl rfl (by rw [V.data_ba])) ?_
          refine Al_p (Pu_add rfl rfl rfl (fun h1 h2 => q2)) ?_
          refine Al_p Pu_mvl ?_
          refine Al_p (Pu_lenB (m := (L.bytes (L.good l)).length) rfl Try.underlying25 rfl rfl (by rw [V.data_ba])) ?_
          refine Al_p (Pu_rem (c := (k : Int)) rfl rfl rfl (by omega) q3) ?_
          refine Al_p Pu_mvr ?_
          refine Al_nil (Aw_seq ?_)
          refine Aw_draw 11 (by kernel_rfl) (by kernel_rfl) ?_
          refine Dr_p Pu_mvl ?_
          refine Dr_p Pu_mvl ?_
          refine Dr_p Pu_mvl ?_
          refine Dr_p Pu_mvl ?_
          refine Dr_p (Pu_indexB (j := k) rfl Try.underlying25 Try.sizeOf5 rfl rfl rfl rfl (by rw [V.data_ba]; exact q4)) ?_
          refine Dr_p (Pu_loadB rfl Try.isAgg5 rfl rfl hat) ?_
          refine Dr_p (Pu_indexArrb (j := 2) rfl Try.underlying23 Try.sizeOf3 rfl rfl rfl (by decide)) ?_
          refine Dr_p (Pu_loadb rfl Try.isAgg3 rfl rfl rfl) ?_
          refine Dr_p (Pu_convW rfl Try.underlying3 Try.underlying5 rfl (L.u8of_eq z) (L.byte_ok _)) ?_
          refine Dr_p (Pu_int_xor rfl rfl rfl (L.u8of_eq _) (fun _ => L.byte_ok _)) ?_
          refine Dr_p (Pu_indexB (j := k) rfl Try.underlying25 Try.sizeOf5 rfl rfl rfl rfl (by rw [V.data_ba]; exact q4)) ?_
          refine Dr_nil ?_
          refine Al_storeB _ rfl rfl rfl (by kernel_rfl) Try.sizeOf5 rfl rfl (by rw [V.data_ba]; omega) rfl ?_
          refine Al_nil (Aw_seq (Aw_region ?_))
          refine Al_p Pu_mvl ?_
          refine Al_p (Pu_convB rfl Try.underlying25 Try.underlying5 Try.underlying9 rfl rfl) ?_
          refine Al_p Pu_mvr ?_
          refine Al_nil (Aw_seq (Aw_region ?_))
          refine Al_p (Pu_indexArrb (j := 0) rfl Try.underlying23 Try.sizeOf3 rfl rfl rfl (by decide)) ?_
          refine Al_p (Pu_loadb rfl Try.isAgg3 rfl rfl rfl) ?_
          refine Al_p (Pu_int_and rfl rfl rfl rfl (fun _ => V.i64_ok _)) ?_
          refine Al_p (Pu_cmp rfl rfl rfl rfl) ?_
          refine Al_nil ?_
          refine Aw_cond rfl (fun h59 => ?_) (fun h59 => ?_)
          · skip
            have hsz1 : (V.ba ((V.ba (L.bytes (L.good l))).data.toList.set (k * 1) (L.u8of (((BitVec.ofInt IntKind.u8.bits (((L.bytes (L.good l))[k]'q4).toNat : Int) ^^^ BitVec.ofInt IntKind.u8.bits ((L.u8of z).toNat : Int)).toNat : Nat) : Int)))).size ≤ 5000 := by
              rw [A.ba_sz, List.length_set, V.data_ba]; omega
            refine Aw_region ?_
            refine Al_p Pu_mvl ?_
            refine Al_p Pu_mvl ?_
            refine Al_p (Pu_subS (0) (k) rfl Try.underlying9 rfl rfl ⟨_, rfl, by omega⟩ ⟨by first | omega | (rw [A.ba_sz, List.length_set, V.data_ba]; omega), by first | omega | (rw [A.ba_sz, List.length_set, V.data_ba]; omega)⟩) ?_
            refine Al_p Pu_mvr ?_
            refine Al_nil ?_
            exact ⟨_, L.cut_le _ _ hsz1, Le.ov ⟨Sub.rfl, trivial⟩ ⟨Sub.rfl, trivial⟩ trivial trivial⟩ -- join 1 next.0
          · skip
            have hsz1 : (V.ba ((V.ba (L.bytes (L.good l))).data.toList.set (k * 1) (L.u8of (((BitVec.ofInt IntKind.u8.bits (((L.bytes (L.good l))[k]'q4).toNat : Int) ^^^ BitVec.ofInt IntKind.u8.bits ((L.u8of z).toNat : Int)).toNat : Nat) : Int)))).size ≤ 5000 := by
              rw [A.ba_sz, List.length_set, V.data_ba]; omega
            refine Aw_skip ?_
            exact ⟨_, hsz1, Le.ov ⟨Sub.rfl, trivial⟩ ⟨Sub.rfl, trivial⟩ trivial trivial⟩ -- join 1 next.1
        · (try simp only [decide_eq_true_eq, decide_eq_false_iff_not, Bool.and_eq_true, Bool.or_eq_true, Bool.and_eq_false_iff, Bool.or_eq_false_iff, Bool.not_eq_true', Bool.not_eq_false', beq_iff_eq, Bool.not_eq_eq_eq_not, Bool.not_true, Bool.not_false, List.length_map, Bool.and_true, Bool.and_false, Bool.false_and, Bool.true_and, Bool.or_false, Bool.false_or] at h31)
          refine Aw_skip ?_
          exact ⟨s1, by omega, Le.ov ⟨Sub.rfl, trivial⟩ ⟨Sub.rfl, trivial⟩ trivial trivial⟩ -- join 1 next.2
      · skip
        refine Aw_skip ?_
        exact ⟨s1, by omega, Le.ov ⟨Sub.rfl, trivial⟩ ⟨Sub.rfl, trivial⟩ trivial trivial⟩ -- join 1 next.3
    · rintro s2 hs2
      refine Aw_seq ?_
      have hrd1 := lread_a s2 hs2
      have hrd2 := rread26_a s2 hs2
      rw [L.readA_eq] at hrd1
      rw [L.qreadA_eq, L.readA_eq] at hrd2
      refine Aw_region ?_
      refine Al_p Pu_mvl ?_
      refine Al_p (Pu_call (hrd1) rfl ⟨Sub.rfl, trivial⟩) ?_
      refine Al_p Pu_mvl ?_
      refine Al_p (Pu_extract rfl rfl rfl) ?_
      refine Al_p (Pu_extract rfl rfl rfl) ?_
      refine Al_p Pu_mvr ?_
      refine Al_p Pu_mvr ?_
      refine Al_nil (Aw_seq (Aw_region ?_))
      refine Al_p Pu_mvl ?_
      refine Al_p (Pu_call (hrd2) rfl ⟨Sub.rfl, trivial⟩) ?_
      refine Al_p Pu_mvl ?_
      refine Al_p (Pu_extract rfl rfl rfl) ?_
      refine Al_p (Pu_extract rfl rfl rfl) ?_
      refine Al_p Pu_mvr ?_
      refine Al_p Pu_mvr ?_
      refine Al_nil (Aw_seq (Aw_region ?_))
      refine Al_p Pu_mvl ?_
      refine Al_p Pu_mvl ?_
      refine Al_p (Pu_call (esame_a _ _) rfl ⟨Sub.rfl, Sub.rfl, trivial⟩) ?_
      refine Al_p Pu_mvr ?_
      refine Al_nil (Aw_seq (Aw_region ?_))
      refine Al_p Pu_mvl ?_
      refine Al_p Pu_mvl ?_
      refine Al_st (St_gd [] rfl rfl rfl rfl trivial (fun hg78 => by exact Pu_move (.inl rfl) (by conv => lhs; whnf))) rfl (by decide) (by kernel_rfl) (by intro j b oj dj h1 h2 h3; cases h1; cases h2; cases h3; decide) ?_
      refine Al_p (Pu_and rfl rfl rfl rfl) ?_
      refine Al_p Pu_mvl ?_
      refine Al_st (St_gd [] rfl rfl rfl rfl trivial (fun hg81 => by exact Pu_move (.inl rfl) (by conv => lhs; whnf))) rfl (by decide) (by kernel_rfl) (by intro j b oj dj h1 h2 h3; cases h1; cases h2; cases h3; decide) ?_
      refine Al_st (St_gd [] rfl rfl rfl rfl trivial (fun hg82 => by exact Pu_move (.inl rfl) (by conv => lhs; whnf))) rfl (by decide) (by kernel_rfl) (by intro j b oj dj h1 h2 h3; cases h1; cases h2; cases h3; decide) ?_
      refine Al_st (St_gd [81, 82] rfl rfl rfl rfl ⟨⟨_, rfl⟩, ⟨_, rfl⟩, trivial⟩ (fun hg83 => Pu_bool rfl Try.underlying4 rfl rfl rfl)) rfl (by decide) (by kernel_rfl) (by intro j b oj dj h1 h2 h3; cases h1; cases h2; cases h3; decide) ?_
      refine Al_p (Pu_and rfl rfl rfl rfl) ?_
      refine Al_p Pu_mvr ?_
      refine Al_nil ?_
      refine Aw_ret ?_
      exact Sub.bool (by simp) -- ret 0
namespace L
theorem good_pos (l : List Event) : 0 < (bytes (good l)).length := by
  unfold bytes
  rw [if_pos (List.all_eq_true.2 (good_check l)), List.length_append]
  have := V.num_pos (good l).length
  omega
theorem readA_good (l : List Event) : readA (bytes (good l)) = .tup [.sl 6 ((good l).map Event.row), bv true] := by
  have h : readL (bytes (good l)) = some (good l) := readL_iff.2 ⟨by
    intro e
    have h1 := good_pos l
    rw [e] at h1
    exact absurd h1 (Nat.lt_irrefl 0), by have := good_len l; omega, rfl⟩
  rw [readA_eq, h]; rfl
theorem readA_more (l : List Event) (c : UInt8) : readA (bytes (good l) ++ [c]) = .tup [.sl 6 [], bv false] := by
  have h : readL (bytes (good l) ++ [c]) = none := by
    unfold readL
    rw [pread_back (good_check l) (by have := good_len l; omega) [c]]
    simp only
    rw [if_neg]
    intro e
    have := congrArg List.length e
    simp at this
  rw [readA_eq, h]; rfl
end L
theorem lread_ba {l : List UInt8} (h : l.length ≤ 5000) {A' : AV} (hA : L.readA l = A') : ACall Try.prog 8 [tv (V.ba l)] A' := by
  have := lread_a (V.ba l) (by rw [ba_size]; exact h)
  rwa [V.data_ba, hA] at this
set_option maxRecDepth 100000 in
theorem lback_law (l : List Event) (c : UInt8) : ACall Try.prog 4 [.sl 6 (l.map Event.row), .v (.int .u8 c.toNat)] (bv true) := by
  refine ACall_enter (fun _ _ => by kernel_rfl) Try.func4 rfl Try.ntmps4 Try.results4 (Nat.le_of_ble_eq_true rfl) (fun hok M0 w0 hnl => ?_)
  have hgl := L.good_len l
  have hgb := L.good_bytes l
  have hgp := L.good_pos l
  refine Aw_seq (Aw_region ?_)
  refine Al_p Pu_mvr ?_
  refine Al_nil (Aw_seq (Aw_region ?_))
  refine Al_p (Pu_call (lawake_a) rfl trivial) ?_
  refine Al_p Pu_mvr ?_
  refine Al_nil (Aw_seq (Aw_region ?_))
  refine Al_p Pu_mvl ?_
  refine Al_p (Pu_call (good_a l) rfl ⟨Sub.rfl, trivial⟩) ?_
  refine Al_p Pu_mvr ?_
  refine Al_nil (Aw_seq (Aw_region ?_))
  refine Al_p Pu_mvl ?_
  refine Al_p (Pu_call (lbytes_a (L.good l) (by omega) (L.good_fit l)) rfl ⟨Sub.rfl, trivial⟩) ?_
  refine Al_p Pu_mvr ?_
  refine Al_nil (Aw_seq (Aw_region ?_))
  refine Al_p Pu_mvl ?_
  refine Al_p (Pu_call (lread_ba (by omega) (L.readA_good l)) rfl ⟨Sub.rfl, trivial⟩) ?_
  refine Al_p Pu_mvl ?_
  refine Al_p (Pu_extract rfl rfl rfl) ?_
  refine Al_p (Pu_extract rfl rfl rfl) ?_
  refine Al_p Pu_mvr ?_
  refine Al_p Pu_mvr ?_
  refine Al_nil (Aw_seq (Aw_region ?_))
  refine Al_p Pu_mvl ?_
  refine Al_p Pu_mvl ?_
  refine Al_p (Pu_slice1 rfl Try.underlying25 Try.sizeOf5 Try.zeroValue5 rfl (by decide) (by decide) (by kernel_rfl) rfl rfl rfl) ?_
  refine Al_p (Pu_convBS (bs := [c]) rfl Try.underlying25 Try.underlying5 Try.underlying9 rfl) ?_
  refine Al_p (Pu_catB rfl rfl rfl (by simp only [List.length_singleton, A.maxI]; omega)) ?_
  refine Al_p (Pu_call (lread_ba (by rw [List.length_append, List.length_singleton]; omega) (L.readA_more l c)) rfl ⟨Sub.rfl, trivial⟩) ?_
  refine Al_p Pu_mvl ?_
  refine Al_p (Pu_extract rfl rfl rfl) ?_
  refine Al_p (Pu_extract rfl rfl rfl) ?_
  refine Al_p Pu_mvr ?_
  refine Al_p Pu_mvr ?_
  refine Al_nil (Aw_seq (Aw_region ?_))
  refine Al_p Pu_mvl ?_
  refine Al_p Pu_mvl ?_
  refine Al_p (Pu_call (esame_a _ _) rfl ⟨Sub.rfl, Sub.rfl, trivial⟩) ?_
  refine Al_p Pu_mvr ?_
  refine Al_nil (Aw_seq (Aw_region ?_))
  refine Al_p Pu_mvl ?_
  refine Al_p Pu_mvl ?_
  refine Al_st (St_gd [] rfl rfl rfl rfl trivial (fun hg37 => by exact Pu_move (.inl rfl) (by conv => lhs; whnf))) rfl (by decide) (by kernel_rfl) (by intro j b oj dj h1 h2 h3; cases h1; cases h2; cases h3; decide) ?_
  refine Al_p (Pu_and rfl rfl rfl rfl) ?_
  refine Al_p Pu_mvl ?_
  refine Al_st (St_gd [] rfl rfl rfl rfl trivial (fun hg40 => by exact Pu_move (.inl rfl) (by conv => lhs; whnf))) rfl (by decide) (by kernel_rfl) (by intro j b oj dj h1 h2 h3; cases h1; cases h2; cases h3; decide) ?_
  refine Al_p (Pu_and rfl rfl rfl rfl) ?_
  refine Al_p Pu_mvl ?_
  refine Al_st (St_gd [] rfl rfl rfl rfl trivial (fun hg43 => by exact Pu_move (.inl rfl) (by conv => lhs; whnf))) rfl (by decide) (by kernel_rfl) (by intro j b oj dj h1 h2 h3; cases h1; cases h2; cases h3; decide) ?_
  refine Al_st (St_gd [43] rfl rfl rfl rfl ⟨⟨_, rfl⟩, trivial⟩ (fun hg44 => Pu_not rfl rfl)) rfl (by decide) (by kernel_rfl) (by intro j b oj dj h1 h2 h3; cases h1; cases h2; cases h3; decide) ?_
  refine Al_p (Pu_and rfl rfl rfl rfl) ?_
  refine Al_p Pu_mvl ?_
  refine Al_st (St_gd [] rfl rfl rfl rfl trivial (fun hg47 => by exact Pu_move (.inl rfl) (by conv => lhs; whnf))) rfl (by decide) (by kernel_rfl) (by intro j b oj dj h1 h2 h3; cases h1; cases h2; cases h3; decide) ?_
  refine Al_st (St_gd [47] rfl rfl rfl rfl ⟨⟨_, rfl⟩, trivial⟩ (fun hg48 => Pu_lenS rfl Try.underlying9 rfl)) rfl (by decide) (by kernel_rfl) (by intro j b oj dj h1 h2 h3; cases h1; cases h2; cases h3; decide) ?_
  refine Al_st (St_gd [48] rfl rfl rfl rfl ⟨⟨_, rfl⟩, trivial⟩ (fun hg49 => Pu_cmp rfl rfl rfl rfl)) rfl (by decide) (by kernel_rfl) (by intro j b oj dj h1 h2 h3; cases h1; cases h2; cases h3; decide) ?_
  refine Al_p (Pu_and rfl rfl rfl rfl) ?_
  refine Al_p Pu_mvr ?_
  refine Al_nil ?_
  refine Aw_ret ?_
  exact Sub.bool (by simp only [decide_true, Bool.and_self, Bool.and_true, Bool.true_and, Bool.not_false, decide_eq_true_eq]; rw [ba_size]; omega) -- ret 0
end Go.Proofs.Ytlcahhlghjbnkaa
end
