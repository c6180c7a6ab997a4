/- script.Check. -/
/- script.Bytes. -/
import Derived.Test.YtocgnmklgklfnaaSRow
set_option linter.unusedSimpArgs false
set_option linter.unusedVariables false
namespace Go.Proofs.Ytocgnmklgklfnaa
open Go.RowKit A R
namespace S
def fits (o : SOp) : Prop := fitRow o.c ∧ o.c.ranges.length ≤ 1000000 ∧ o.c.owners.length ≤ 1000000 ∧ o.c.parents.length ≤ 1000000
def rowOk (c : SRow) : Bool := empty c || written c
/-- A step that may be. -/
def check (o : SOp) : Bool := decide (1 ≤ o.kind) && decide (o.kind ≤ 12) && !(numbers o).any wild && decide (o.keys.length ≤ 8) && !o.keys.any long && !long o.key && !long o.value && rowOk o.c
theorem bytes_ne (c : SRow) : (!((V.ba (if written c then rowBytes c else [])).toList == (⟨#[]⟩ : ByteArray).toList)) = written c := by
  have h : (V.ba (if written c then rowBytes c else [])).toList = (if written c then rowBytes c else []) := by
    rw [ByteArray.toList_eq]
  have he : (⟨#[]⟩ : ByteArray).toList = [] := by rw [ByteArray.toList_eq]
  rw [h, he]
  cases hw : written c
  · rfl
  · have := V.num_pos c.ranges.length
    rw [if_pos rfl]
    cases hr : rowBytes c with
    | nil =>
      have hl : (rowBytes c).length = 0 := by rw [hr]; rfl
      unfold rowBytes at hl
      simp only [List.length_append] at hl
      omega
    | cons x l => rfl
end S
set_option maxRecDepth 100000 in
theorem scheck_a (o : SOp) (hf : S.fits o) : ACall Try.prog 10 [.row o.row] (bv (S.check o)) := by
  refine ACall_enter (fun _ _ => by kernel_rfl) Try.func10 rfl Try.ntmps10 Try.results10 (Nat.le_of_ble_eq_true rfl) (fun hok M0 w0 hnl => ?_)
  refine Aw_seq ?_
  refine Aw_region ?_
  refine Al_pu (Pu_boxN rfl rfl) rfl rfl (by decide) (by kernel_rfl) ?_
  refine Al_pu (Pu_move (.inr rfl) (by conv => lhs; whnf)) rfl rfl (by decide) (by kernel_rfl) ?_
  refine Al_nil ?_
  refine Aw_seq ?_
  refine Aw_region ?_
  refine Al_pu (Pu_move (.inr rfl) (by conv => lhs; whnf)) rfl rfl (by decide) (by kernel_rfl) ?_
  refine Al_nil ?_
  refine Aw_seq ?_
  refine Aw_region ?_
  refine Al_pu (Pu_move (.inr rfl) (by conv => lhs; whnf)) rfl rfl (by decide) (by kernel_rfl) ?_
  refine Al_nil ?_
  refine Aw_seq ?_
  refine Aw_region ?_
  refine Al_pu (Pu_field 0 rfl Try.underlying30 rfl rfl Try.sizeOf3 rfl) rfl rfl (by decide) (by kernel_rfl) ?_
  refine Al_pu (Pu_load1 rfl Try.isAgg3 rfl rfl) rfl rfl (by decide) (by kernel_rfl) ?_
  refine Al_pu (Pu_cmp rfl rfl rfl rfl) rfl rfl (by decide) (by kernel_rfl) ?_
  refine Al_pu (Pu_move (.inl rfl) (by conv => lhs; whnf)) rfl rfl (by decide) (by kernel_rfl) ?_
  refine Al_st (St_gd [] rfl rfl rfl rfl trivial (fun hg9 => Pu_field 0 rfl Try.underlying30 rfl rfl Try.sizeOf3 rfl)) rfl (by decide) (by kernel_rfl) (by intro j b oj dj h1 h2 h3; cases h1; cases h2; cases h3; decide) ?_
  refine Al_st (St_gd [9] rfl rfl rfl rfl ⟨⟨_, rfl⟩, trivial⟩ (fun hg10 => Pu_load1 rfl Try.isAgg3 rfl rfl)) rfl (by decide) (by kernel_rfl) (by intro j b oj dj h1 h2 h3; cases h1; cases h2; cases h3; decide) ?_
  refine Al_st (St_gd [10] rfl rfl rfl rfl ⟨⟨_, rfl⟩, trivial⟩ (fun hg11 => Pu_cmp rfl rfl rfl rfl)) rfl (by decide) (by kernel_rfl) (by intro j b oj dj h1 h2 h3; cases h1; cases h2; cases h3; decide) ?_
  refine Al_pu (Pu_and rfl rfl rfl rfl) rfl rfl (by decide) (by kernel_rfl) ?_
  refine Al_pu (Pu_move (.inl rfl) (by conv => lhs; whnf)) rfl rfl (by decide) (by kernel_rfl) ?_
  refine Al_st (St_gd [] rfl rfl rfl rfl trivial (fun hg14 => Pu_loadN rfl Try.isAgg30 Try.sizeOf30 rfl (Nat.le_of_ble_eq_true rfl))) rfl (by decide) (by kernel_rfl) (by intro j b oj dj h1 h2 h3; cases h1; cases h2; cases h3; decide) ?_
  refine Al_st (St_gd [14] rfl rfl rfl rfl ⟨⟨_, rfl⟩, trivial⟩ (fun hg15 => Pu_call (snumbers_a o) rfl ⟨Sub.rfl, trivial⟩)) rfl (by decide) (by kernel_rfl) (by intro j b oj dj h1 h2 h3; cases h1; cases h2; cases h3; decide) ?_
  refine Al_st (St_gd [] rfl rfl rfl rfl trivial (fun hg16 => by exact Pu_move (.inl rfl) (by conv => lhs; whnf))) rfl (by decide) (by kernel_rfl) (by intro j b oj dj h1 h2 h3; cases h1; cases h2; cases h3; decide) ?_
  refine Al_st (St_gd [15, 16] rfl rfl rfl rfl ⟨⟨_, rfl⟩, ⟨_, rfl⟩, trivial⟩ (fun hg17 => Pu_call (containsI_a (S.numbers o) _ [] S.wild swild_a) rfl ⟨Sub.rfl, Sub.rfl, trivial⟩)) rfl (by decide) (by kernel_rfl) (by intro j b oj dj h1 h2 h3; cases h1; cases h2; cases h3; decide) ?_
  refine Al_st (St_gd [17] rfl rfl rfl rfl ⟨⟨_, rfl⟩, trivial⟩ (fun hg18 => Pu_not rfl rfl)) rfl (by decide) (by kernel_rfl) (by intro j b oj dj h1 h2 h3; cases h1; cases h2; cases h3; decide) ?_
  refine Al_pu (Pu_and rfl rfl rfl rfl) rfl rfl (by decide) (by kernel_rfl) ?_
  refine Al_pu (Pu_move (.inl rfl) (by conv => lhs; whnf)) rfl rfl (by decide) (by kernel_rfl) ?_
  refine Al_st (St_gd [] rfl rfl rfl rfl trivial (fun hg21 => Pu_field 8 rfl Try.underlying30 rfl rfl Try.sizeOf24 rfl)) rfl (by decide) (by kernel_rfl) (by intro j b oj dj h1 h2 h3; cases h1; cases h2; cases h3; decide) ?_
  refine Al_st (St_gd [21] rfl rfl rfl rfl ⟨⟨_, rfl⟩, trivial⟩ (fun hg22 => Pu_load1 rfl Try.isAgg24 rfl rfl)) rfl (by decide) (by kernel_rfl) (by intro j b oj dj h1 h2 h3; cases h1; cases h2; cases h3; decide) ?_
  refine Al_st (St_gd [22] rfl rfl rfl rfl ⟨⟨_, rfl⟩, trivial⟩ (fun hg23 => by exact Pu_len rfl Try.underlying24 rfl (by first | exact List.length_map .. | exact rfl))) rfl (by decide) (by kernel_rfl) (by intro j b oj dj h1 h2 h3; cases h1; cases h2; cases h3; decide) ?_
  refine Al_st (St_gd [23] rfl rfl rfl rfl ⟨⟨_, rfl⟩, trivial⟩ (fun hg24 => Pu_cmp rfl rfl rfl rfl)) rfl (by decide) (by kernel_rfl) (by intro j b oj dj h1 h2 h3; cases h1; cases h2; cases h3; decide) ?_
  refine Al_pu (Pu_and rfl rfl rfl rfl) rfl rfl (by decide) (by kernel_rfl) ?_
  refine Al_pu (Pu_move (.inl rfl) (by conv => lhs; whnf)) rfl rfl (by decide) (by kernel_rfl) ?_
  refine Al_st (St_gd [] rfl rfl rfl rfl trivial (fun hg27 => Pu_field 8 rfl Try.underlying30 rfl rfl Try.sizeOf24 rfl)) rfl (by decide) (by kernel_rfl) (by intro j b oj dj h1 h2 h3; cases h1; cases h2; cases h3; decide) ?_
  refine Al_st (St_gd [27] rfl rfl rfl rfl ⟨⟨_, rfl⟩, trivial⟩ (fun hg28 => Pu_load1 rfl Try.isAgg24 rfl rfl)) rfl (by decide) (by kernel_rfl) (by intro j b oj dj h1 h2 h3; cases h1; cases h2; cases h3; decide) ?_
  refine Al_st (St_gd [] rfl rfl rfl rfl trivial (fun hg29 => by exact Pu_move (.inl rfl) (by conv => lhs; whnf))) rfl (by decide) (by kernel_rfl) (by intro j b oj dj h1 h2 h3; cases h1; cases h2; cases h3; decide) ?_
  refine Al_st (St_gd [28, 29] rfl rfl rfl rfl ⟨⟨_, rfl⟩, ⟨_, rfl⟩, trivial⟩ (fun hg30 => Pu_call (containsS_a o.keys _ [] S.long slong_a) rfl ⟨Sub.rfl, Sub.rfl, trivial⟩)) rfl (by decide) (by kernel_rfl) (by intro j b oj dj h1 h2 h3; cases h1; cases h2; cases h3; decide) ?_
  refine Al_st (St_gd [30] rfl rfl rfl rfl ⟨⟨_, rfl⟩, trivial⟩ (fun hg31 => Pu_not rfl rfl)) rfl (by decide) (by kernel_rfl) (by intro j b oj dj h1 h2 h3; cases h1; cases h2; cases h3; decide) ?_
  refine Al_pu (Pu_and rfl rfl rfl rfl) rfl rfl (by decide) (by kernel_rfl) ?_
  refine Al_pu (Pu_move (.inl rfl) (by conv => lhs; whnf)) rfl rfl (by decide) (by kernel_rfl) ?_
  refine Al_st (St_gd [] rfl rfl rfl rfl trivial (fun hg34 => by exact Pu_move (.inl rfl) (by conv => lhs; whnf))) rfl (by decide) (by kernel_rfl) (by intro j b oj dj h1 h2 h3; cases h1; cases h2; cases h3; decide) ?_
  refine Al_st (St_gd [] rfl rfl rfl rfl trivial (fun hg35 => Pu_field 6 rfl Try.underlying30 rfl rfl Try.sizeOf9 rfl)) rfl (by decide) (by kernel_rfl) (by intro j b oj dj h1 h2 h3; cases h1; cases h2; cases h3; decide) ?_
  refine Al_st (St_gd [35] rfl rfl rfl rfl ⟨⟨_, rfl⟩, trivial⟩ (fun hg36 => Pu_load1 rfl Try.isAgg9 rfl rfl)) rfl (by decide) (by kernel_rfl) (by intro j b oj dj h1 h2 h3; cases h1; cases h2; cases h3; decide) ?_
  refine Al_st (St_gd [34, 36] rfl rfl rfl rfl ⟨⟨_, rfl⟩, ⟨_, rfl⟩, trivial⟩ (fun hg37 => Pu_callv (aa := [tv o.key]) (caps := []) (slong_a _) rfl rfl ⟨Sub.rfl, trivial⟩)) rfl (by decide) (by kernel_rfl) (by intro j b oj dj h1 h2 h3; cases h1; cases h2; cases h3; decide) ?_
  refine Al_st (St_gd [37] rfl rfl rfl rfl ⟨⟨_, rfl⟩, trivial⟩ (fun hg38 => Pu_not rfl rfl)) rfl (by decide) (by kernel_rfl) (by intro j b oj dj h1 h2 h3; cases h1; cases h2; cases h3; decide) ?_
  refine Al_pu (Pu_and rfl rfl rfl rfl) rfl rfl (by decide) (by kernel_rfl) ?_
  refine Al_pu (Pu_move (.inl rfl) (by conv => lhs; whnf)) rfl rfl (by decide) (by kernel_rfl) ?_
  refine Al_st (St_gd [] rfl rfl rfl rfl trivial (fun hg41 => by exact Pu_move (.inl rfl) (by conv => lhs; whnf))) rfl (by decide) (by kernel_rfl) (by intro j b oj dj h1 h2 h3; cases h1; cases h2; cases h3; decide) ?_
  refine Al_st (St_gd [] rfl rfl rfl rfl trivial (fun hg42 => Pu_field 7 rfl Try.underlying30 rfl rfl Try.sizeOf9 rfl)) rfl (by decide) (by kernel_rfl) (by intro j b oj dj h1 h2 h3; cases h1; cases h2; cases h3; decide) ?_
  refine Al_st (St_gd [42] rfl rfl rfl rfl ⟨⟨_, rfl⟩, trivial⟩ (fun hg43 => Pu_load1 rfl Try.isAgg9 rfl rfl)) rfl (by decide) (by kernel_rfl) (by intro j b oj dj h1 h2 h3; cases h1; cases h2; cases h3; decide) ?_
  refine Al_st (St_gd [41, 43] rfl rfl rfl rfl ⟨⟨_, rfl⟩, ⟨_, rfl⟩, trivial⟩ (fun hg44 => Pu_callv (aa := [tv o.value]) (caps := []) (slong_a _) rfl rfl ⟨Sub.rfl, trivial⟩)) rfl (by decide) (by kernel_rfl) (by intro j b oj dj h1 h2 h3; cases h1; cases h2; cases h3; decide) ?_
  refine Al_st (St_gd [44] rfl rfl rfl rfl ⟨⟨_, rfl⟩, trivial⟩ (fun hg45 => Pu_not rfl rfl)) rfl (by decide) (by kernel_rfl) (by intro j b oj dj h1 h2 h3; cases h1; cases h2; cases h3; decide) ?_
  refine Al_pu (Pu_and rfl rfl rfl rfl) rfl rfl (by decide) (by kernel_rfl) ?_
  refine Al_pu (Pu_move (.inl rfl) (by conv => lhs; whnf)) rfl rfl (by decide) (by kernel_rfl) ?_
  refine Al_st (St_gd [] rfl rfl rfl rfl trivial (fun hg48 => Pu_field 9 rfl Try.underlying30 rfl rfl Try.sizeOf28 rfl)) rfl (by decide) (by kernel_rfl) (by intro j b oj dj h1 h2 h3; cases h1; cases h2; cases h3; decide) ?_
  refine Al_st (St_gd [48] rfl rfl rfl rfl ⟨⟨_, rfl⟩, trivial⟩ (fun hg49 => Pu_loadN rfl Try.isAgg28 Try.sizeOf28 rfl (Nat.le_of_ble_eq_true rfl))) rfl (by decide) (by kernel_rfl) (by intro j b oj dj h1 h2 h3; cases h1; cases h2; cases h3; decide) ?_
  refine Al_st (St_gd [49] rfl rfl rfl rfl ⟨⟨_, rfl⟩, trivial⟩ (fun hg50 => Pu_call (sempty_a o.c hf.2.1 hf.2.2.1 hf.2.2.2) rfl ⟨Sub.rfl, trivial⟩)) rfl (by decide) (by kernel_rfl) (by intro j b oj dj h1 h2 h3; cases h1; cases h2; cases h3; decide) ?_
  refine Al_st (St_gd [50] rfl rfl rfl rfl ⟨⟨_, rfl⟩, trivial⟩ (fun hg51 => by exact Pu_move (.inl rfl) (by conv => lhs; whnf))) rfl (by decide) (by kernel_rfl) (by intro j b oj dj h1 h2 h3; cases h1; cases h2; cases h3; decide) ?_
  refine Al_st (St_gd2 [] rfl rfl rfl rfl trivial (fun hp52 hg52 => Pu_field 9 rfl Try.underlying30 rfl rfl Try.sizeOf28 rfl)) rfl (by decide) (by kernel_rfl) (by intro j b oj dj h1 h2 h3; cases h1; cases h2; cases h3; decide) ?_
  refine Al_st (St_gd2 [52] rfl rfl rfl rfl ⟨⟨_, rfl⟩, trivial⟩ (fun hp53 hg53 => Pu_loadN rfl Try.isAgg28 Try.sizeOf28 rfl (Nat.le_of_ble_eq_true rfl))) rfl (by decide) (by kernel_rfl) (by intro j b oj dj h1 h2 h3; cases h1; cases h2; cases h3; decide) ?_
  refine Al_st (St_gd2 [53] rfl rfl rfl rfl ⟨⟨_, rfl⟩, trivial⟩ (fun hp54 hg54 => Pu_call (rowbytes_a o.c hf.1) rfl ⟨Sub.rfl, trivial⟩)) rfl (by decide) (by kernel_rfl) (by intro j b oj dj h1 h2 h3; cases h1; cases h2; cases h3; decide) ?_
  refine Al_st (St_gd2 [54] rfl rfl rfl rfl ⟨⟨_, rfl⟩, trivial⟩ (fun hp55 hg55 => Pu_str rfl rfl rfl rfl)) rfl (by decide) (by kernel_rfl) (by intro j b oj dj h1 h2 h3; cases h1; cases h2; cases h3; decide) ?_
  refine Al_st (St_gd [51] rfl rfl rfl rfl ⟨⟨_, rfl⟩, trivial⟩ (fun hg56 => Pu_orG rfl rfl rfl (fun h => ⟨hg56, h⟩) rfl)) rfl (by decide) (by kernel_rfl) (by intro j b oj dj h1 h2 h3; cases h1; cases h2; cases h3; decide) ?_
  refine Al_pu (Pu_and rfl rfl rfl rfl) rfl rfl (by decide) (by kernel_rfl) ?_
  refine Al_pu (Pu_move (.inr rfl) (by conv => lhs; whnf)) rfl rfl (by decide) (by kernel_rfl) ?_
  refine Al_nil ?_
  refine Aw_ret ?_
  exact Sub.bool (by
    unfold S.check S.rowOk
    rw [S.bytes_ne, show decide ((o.keys.length : Int) ≤ 8) = decide (o.keys.length ≤ 8) from decide_eq_decide.2 (by omega)]) -- ret 0
end Go.Proofs.Ytocgnmklgklfnaa

set_option linter.unusedSimpArgs false
set_option linter.unusedVariables false
namespace Go.Proofs.Ytocgnmklgklfnaa
open Go.RowKit A R
namespace S
def rowText (c : SRow) : List UInt8 := if empty c then [] else (if written c then rowBytes c else [])
def one (o : SOp) : List UInt8 := (numbers o).flatMap (fun x => V.num x.toNat) ++ (V.text o.key ++ V.text o.value ++ V.num o.keys.length) ++ o.keys.flatMap V.text ++ V.text (V.ba (rowText o.c))
def bytes (l : List SOp) : List UInt8 := if l.all check then V.num l.length ++ l.flatMap one else []
theorem rowBytes_le {c : SRow} (hw : written c = true) (hf : fitRow c) : (rowBytes c).length ≤ 12000 := by
  obtain ⟨hs, hp, hx⟩ := written_facts hw
  obtain ⟨n1, n2, n3, n4, n5⟩ := shape_facts hs
  have b1 := V.num_len64 (n := c.ranges.length) (by omega)
  have b2 := V.num_len64 (n := c.parents.length) (by omega)
  have q1 := flat_le (fun r : Rng => V.text r.t) 1010 (cuts c) (fun r hr => by
    have := (hf r (List.mem_of_mem_take hr)).2
    have := V.num_len64 (n := r.t.size) (by omega)
    simp [V.text]; omega)
  have q0 : (cuts c).length ≤ 8 := by unfold cuts; simp; omega
  have q2 := flat_le (fun x : Int => V.num x.toNat) 10 c.owners (fun x h => V.num_len64 (by have := hx x h; omega))
  have q3 := flat_le (fun p : Int => V.num (p + 1).toNat) 10 c.parents (fun p h => V.num_len64 (by have := hp p h; omega))
  unfold rowBytes
  simp only [List.length_append]
  omega
theorem check_facts {o : SOp} (h : check o = true) : (∀ x ∈ numbers o, 0 ≤ x ∧ x ≤ 63) ∧ o.keys.length ≤ 8 ∧ (∀ s ∈ o.keys, s.size ≤ 32) ∧ o.key.size ≤ 32 ∧ o.value.size ≤ 32 ∧ (empty o.c = true ∨ written o.c = true) := by
  simp only [check, Bool.and_eq_true, Bool.not_eq_true', decide_eq_true_eq, rowOk, Bool.or_eq_true] at h
  obtain ⟨⟨⟨⟨⟨⟨⟨_, _⟩, h1⟩, h2⟩, h3⟩, h4⟩, h5⟩, h6⟩ := h
  refine ⟨fun x hx => ?_, h2, fun s hs => ?_, ?_, ?_, h6⟩
  · by_cases hb : wild x = true
    · rw [List.any_eq_true.2 ⟨x, hx, hb⟩] at h1; cases h1
    · simp only [wild, Bool.or_eq_true, decide_eq_true_eq, not_or] at hb; omega
  · by_cases hb : long s = true
    · rw [List.any_eq_true.2 ⟨s, hs, hb⟩] at h3; cases h3
    · simp only [long, decide_eq_true_eq] at hb; omega
  · simp only [long, decide_eq_false_iff_not] at h4; omega
  · simp only [long, decide_eq_false_iff_not] at h5; omega
theorem text_le {s : ByteArray} {n : Nat} (h : s.size ≤ n) (hn : n ≤ 1000000) : (V.text s).length ≤ n + 10 := by
  have := V.num_len64 (n := s.size) (by omega)
  simp [V.text]; omega
theorem rowText_le {c : SRow} (hf : fitRow c) : (rowText c).length ≤ 12000 := by
  unfold rowText
  split
  · simp
  · split
    · exact rowBytes_le (by assumption) hf
    · simp
theorem one_le {o : SOp} (h : check o = true) (hf : fitRow o.c) : (one o).length ≤ 20000 := by
  obtain ⟨h1, h2, h3, h4, h5, _⟩ := check_facts h
  have q1 := flat_le (fun x : Int => V.num x.toNat) 10 (numbers o) (fun x hx => V.num_len64 (by have := h1 x hx; omega))
  have q2 := flat_le V.text 42 o.keys (fun s hs => text_le (h3 s hs) (by omega))
  have q3 := text_le h4 (by omega)
  have q4 := text_le h5 (by omega)
  have q5 := V.num_len64 (n := o.keys.length) (by omega)
  have q6 := rowText_le hf
  have q7 : (V.text (V.ba (rowText o.c))).length ≤ 12010 := text_le (by rw [A.ba_sz]; exact q6) (by omega)
  have q8 : (numbers o).length = 6 := rfl
  unfold one
  simp only [List.length_append]
  omega
theorem all_snoc {l : List SOp} {i : Nat} (hi : i < l.length) (h : ∀ o ∈ l.take i, check o = true) (hc : check l[i] = true) : ∀ o ∈ l.take (i + 1), check o = true := fun o ho => by
  rw [List.take_succ_eq_append_getElem hi] at ho
  rcases List.mem_append.1 ho with ho | ho
  · exact h o ho
  · rw [List.mem_singleton.1 ho]; exact hc
end S
set_option maxRecDepth 100000 in
theorem sbytes_a (l : List SOp) (hl : l.length ≤ 1000) (hf : ∀ o ∈ l, S.fits o) : ACall Try.prog 12 [.sl 12 (l.map SOp.row)] (tv (V.ba (S.bytes l))) := by
  refine ACall_enter (fun _ _ => by kernel_rfl) Try.func12 rfl Try.ntmps12 Try.results12 (Nat.le_of_ble_eq_true rfl) (fun hok M0 w0 hnl => ?_)
  have b1 := V.num_len64 (n := l.length) (by omega)
  refine Aw_seq ?_
  refine Aw_region ?_
  refine Al_pu (Pu_move (.inr rfl) (by conv => lhs; whnf)) rfl rfl (by decide) (by kernel_rfl) ?_
  refine Al_nil ?_
  refine Aw_seq ?_
  refine Aw_region ?_
  refine Al_alloc rfl rfl rfl (by decide) Try.zeroValue57 rfl (by kernel_rfl) (fun g3 => ?_)
  refine Al_nil ?_
  refine Aw_seq ?_
  refine Aw_ownc (k := 3) (k2 := 400) (e := 5) (n := 1) rfl rfl (fun g40 => ?_)
  refine Aw_region ?_
  refine Al_pu (Pu_move (.inl rfl) (by conv => lhs; whnf)) rfl rfl (by decide) (by kernel_rfl) ?_
  refine Al_pu (Pu_len rfl Try.underlying22 rfl (by first | exact List.length_map .. | exact rfl)) rfl rfl (by decide) (by kernel_rfl) ?_
  refine Al_pu (Pu_conv rfl Try.underlying3 Try.underlying63 rfl (fun hv => u64_nat (by omega) (by simp only [vok, A.inI] at hv; omega))) rfl rfl (by decide) (by kernel_rfl) ?_
  refine Al_pu (Pu_call (number_a l.length (by omega)) rfl ⟨Sub.rfl, trivial⟩) rfl rfl (by decide) (by kernel_rfl) ?_
  refine Al_bwrite (k := 3) (k2 := 400) (bs := []) rfl rfl rfl (by decide) (by kernel_rfl) rfl rfl (.inl rfl) rfl rfl rfl (by simp only [List.length_nil, A.ba_sz]; omega) (fun g15 => ?_)
  refine Al_nil ?_
  refine Aw_seq ?_
  refine Aw_seq ?_
  refine Aw_region ?_
  refine Al_pu (Pu_move (.inl rfl) (by conv => lhs; whnf)) rfl rfl (by decide) (by kernel_rfl) ?_
  refine Al_pu (Pu_len rfl Try.underlying22 rfl (by first | exact List.length_map .. | exact rfl)) rfl rfl (by decide) (by kernel_rfl) ?_
  refine Al_pu (Pu_move (.inl rfl) (by conv => lhs; whnf)) rfl rfl (by decide) (by kernel_rfl) ?_
  refine Al_nil ?_
  refine Aw_block ?_
  refine Aw_loopk (ι := Nat × Nat) [3, 16, 17] [] (fun (i, g) => [(18, .d (iv i))]) (fun (i, g) => [(3, g3, .box 57 [.bx 3 g3 0, .ow 400 g]), (400, g, .arr 5 1 (byteA (V.num l.length ++ (l.take i).flatMap S.one)))]) (fun (i, g) => i ≤ l.length ∧ ∀ o ∈ l.take i, S.check o = true) (fun (i, g) => l.length - i) ((0, g15)) (⟨Nat.zero_le _, by simp⟩) ⟨Sub.rfl, trivial⟩ ⟨rfl, obeq (by simp [V.ba]), trivial⟩ ?_
  rintro ⟨i, g⟩ ⟨hk0, hall⟩
  refine Aw_seq ?_
  refine Aw_region ?_
  refine Al_pu (Pu_cmp rfl rfl rfl rfl) rfl rfl (by decide) (by kernel_rfl) ?_
  refine Al_nil ?_
  refine Aw_seq ?_
  refine Aw_cond rfl (fun h19 => ?_) (fun h19 => ?_)
  · (try simp only [decide_eq_true_eq, decide_eq_false_iff_not, Bool.and_eq_true, Bool.or_eq_true, Bool.and_eq_false_iff, Bool.or_eq_false_iff, Bool.not_eq_true', Bool.not_eq_false', beq_iff_eq, Bool.not_eq_eq_eq_not, Bool.not_true, Bool.not_false, List.length_map, Bool.and_true, Bool.and_false, Bool.false_and, Bool.true_and, Bool.or_false, Bool.false_or] at h19)
    have hi : i < l.length := by omega
    have hfi := hf _ (List.getElem_mem hi)
    have p1 := S.flat_le S.one 20000 (l.take i) (fun o ho => S.one_le (hall o ho) (hf o (List.mem_of_mem_take ho)).1)
    rw [List.length_take] at p1
    refine Aw_skip ?_
    -- join 0: live [3, 16, 17, 18], turned []
    refine Aw_seq ?_
    refine Aw_block ?_
    refine Aw_seq ?_
    refine Aw_region ?_
    refine Al_pu (Pu_index rfl Try.underlying22 Try.sizeOf30 rfl rfl (rfl) (mapget hi)) rfl rfl (by decide) (by kernel_rfl) ?_
    refine Al_pu (Pu_loadN rfl Try.isAgg30 Try.sizeOf30 rfl (Nat.le_of_ble_eq_true rfl)) rfl rfl (by decide) (by kernel_rfl) ?_
    refine Al_alloc rfl rfl rfl (by decide) Try.zeroValue30 rfl (by kernel_rfl) (fun g5 => ?_)
    refine Al_storeN rfl rfl rfl (by kernel_rfl) Try.isAgg30 Try.sizeOf30 rfl rfl rfl rfl (Nat.le_of_ble_eq_true rfl) ?_
    refine Al_nil ?_
    refine Aw_seq ?_
    refine Aw_seq ?_
    refine Aw_region ?_
    refine Al_pu (Pu_loadbN (r := [_, _, _, _, _, _, _, _, _, _, _, _]) rfl Try.isAgg30 Try.sizeOf30 rfl rfl rfl rfl) rfl rfl (by decide) (by kernel_rfl) ?_
    refine Al_pu (Pu_call (scheck_a l[i] hfi) rfl ⟨Sub.rfl, trivial⟩) rfl rfl (by decide) (by kernel_rfl) ?_
    refine Al_pu (Pu_not rfl rfl) rfl rfl (by decide) (by kernel_rfl) ?_
    refine Al_nil ?_
    refine Aw_cond rfl (fun h24 => ?_) (fun h24 => ?_)
    · (try simp only [decide_eq_true_eq, decide_eq_false_iff_not, Bool.and_eq_true, Bool.or_eq_true, Bool.and_eq_false_iff, Bool.or_eq_false_iff, Bool.not_eq_true', Bool.not_eq_false', beq_iff_eq, Bool.not_eq_eq_eq_not, Bool.not_true, Bool.not_false, List.length_map, Bool.and_true, Bool.and_false, Bool.false_and, Bool.true_and, Bool.or_false, Bool.false_or] at h24)
      have hc : S.check l[i] = false := by simpa using h24
      refine Aw_seq ?_
      refine Aw_region ?_
      refine Al_pu (Pu_move (.inr rfl) (by conv => lhs; whnf)) rfl rfl (by decide) (by kernel_rfl) ?_
      refine Al_nil ?_
      refine Aw_ret ?_
      exact Sub.str (by
        have : l.all S.check = false := by
          rw [List.all_eq_false]
          exact ⟨_, List.getElem_mem hi, by simp [hc]⟩
        unfold S.bytes
        rw [this]; rfl) -- ret 0
    · (try simp only [decide_eq_true_eq, decide_eq_false_iff_not, Bool.and_eq_true, Bool.or_eq_true, Bool.and_eq_false_iff, Bool.or_eq_false_iff, Bool.not_eq_true', Bool.not_eq_false', beq_iff_eq, Bool.not_eq_eq_eq_not, Bool.not_true, Bool.not_false, List.length_map, Bool.and_true, Bool.and_false, Bool.false_and, Bool.true_and, Bool.or_false, Bool.false_or] at h24)
      have hc : S.check l[i] = true := by simpa using h24
      obtain ⟨f1, f2, f3, f4, f5, f6⟩ := S.check_facts hc
      have hn6 : (S.numbers l[i]).length = 6 := rfl
      refine Aw_skip ?_
      refine Aw_seq ?_
      refine Aw_seq ?_
      refine Aw_region ?_
      refine Al_pu (Pu_loadbN (r := [_, _, _, _, _, _, _, _, _, _, _, _]) rfl Try.isAgg30 Try.sizeOf30 rfl rfl rfl rfl) rfl rfl (by decide) (by kernel_rfl) ?_
      refine Al_pu (Pu_call (snumbers_a l[i]) rfl ⟨Sub.rfl, trivial⟩) rfl rfl (by decide) (by kernel_rfl) ?_
      refine Al_pu (Pu_len rfl Try.underlying26 rfl (by first | exact List.length_map .. | exact rfl)) rfl rfl (by decide) (by kernel_rfl) ?_
      refine Al_pu (Pu_move (.inl rfl) (by conv => lhs; whnf)) rfl rfl (by decide) (by kernel_rfl) ?_
      refine Al_nil ?_
      refine Aw_block ?_
      refine Aw_loopk (ι := Nat × Nat) [3, 5, 16, 17, 18, 26, 27] [5] (fun (j, h) => [(28, .d (iv j))]) (fun (j, h) => [(3, g3, .box 57 [.bx 3 g3 0, .ow 400 h]), (400, h, .arr 5 1 (byteA (V.num l.length ++ (l.take i).flatMap S.one ++ ((S.numbers l[i]).take j).flatMap fun x => V.num x.toNat)))]) (fun (j, h) => j ≤ (S.numbers l[i]).length) (fun (j, h) => (S.numbers l[i]).length - j) ((0, g)) (Nat.zero_le _) ⟨Sub.rfl, trivial⟩ ⟨rfl, obeq (by simp), trivial⟩ ?_
      rintro ⟨j, h⟩ hk1
      refine Aw_seq ?_
      refine Aw_region ?_
      refine Al_pu (Pu_cmp rfl rfl rfl rfl) rfl rfl (by decide) (by kernel_rfl) ?_
      refine Al_nil ?_
      refine Aw_seq ?_
      refine Aw_cond rfl (fun h29 => ?_) (fun h29 => ?_)
      · (try simp only [decide_eq_true_eq, decide_eq_false_iff_not, Bool.and_eq_true, Bool.or_eq_true, Bool.and_eq_false_iff, Bool.or_eq_false_iff, Bool.not_eq_true', Bool.not_eq_false', beq_iff_eq, Bool.not_eq_eq_eq_not, Bool.not_true, Bool.not_false, List.length_map, Bool.and_true, Bool.and_false, Bool.false_and, Bool.true_and, Bool.or_false, Bool.false_or] at h29)
        have hj : j < (S.numbers l[i]).length := by omega
        have o1 := f1 _ (List.getElem_mem hj)
        have o2 := V.num_len64 (n := (S.numbers l[i])[j].toNat) (by omega)
        have o3 := S.flat_le (fun x : Int => V.num x.toNat) 10 ((S.numbers l[i]).take j) (fun x hx => V.num_len64 (by have := f1 x (List.mem_of_mem_take hx); omega))
        rw [List.length_take] at o3
        refine Aw_skip ?_
        refine Aw_seq ?_
        refine Aw_block ?_
        refine Aw_seq ?_
        refine Aw_region ?_
        refine Al_pu (Pu_index rfl Try.underlying26 Try.sizeOf3 rfl rfl (rfl) (mapget hj)) rfl rfl (by decide) (by kernel_rfl) ?_
        refine Al_pu (Pu_load1 rfl Try.isAgg3 rfl rfl) rfl rfl (by decide) (by kernel_rfl) ?_
        refine Al_pu (Pu_move (.inr rfl) (by conv => lhs; whnf)) rfl rfl (by decide) (by kernel_rfl) ?_
        refine Al_nil ?_
        refine Aw_region ?_
        refine Al_pu (Pu_move (.inl rfl) (by conv => lhs; whnf)) rfl rfl (by decide) (by kernel_rfl) ?_
        refine Al_pu (Pu_conv rfl Try.underlying3 Try.underlying63 rfl (fun hv => u64_nat (by omega) (by simp only [vok, A.inI] at hv; omega))) rfl rfl (by decide) (by kernel_rfl) ?_
        refine Al_pu (Pu_call (number_az _ (by omega) (by omega)) rfl ⟨Sub.rfl, trivial⟩) rfl rfl (by decide) (by kernel_rfl) ?_
        refine Al_bwrite (k := 3) (k2 := 400) (bs := V.num l.length ++ (l.take i).flatMap S.one ++ (((S.numbers l[i]).take j).flatMap fun x => V.num x.toNat)) rfl rfl rfl (by decide) (by kernel_rfl) rfl rfl (.inr rfl) rfl rfl rfl (by simp only [List.length_append, A.ba_sz]; omega) (fun g35 => ?_)
        refine Al_nil ?_
        refine Aw_region ?_
        refine Al_pu (Pu_add rfl rfl rfl (fun h1 h2 => by simp only [A.inI, A.maxI] at *; omega)) rfl rfl (by decide) (by kernel_rfl) ?_
        refine Al_pu (Pu_move (.inl rfl) (by conv => lhs; whnf)) rfl rfl (by decide) (by kernel_rfl) ?_
        refine Al_nil ?_
        exact ⟨(j + 1, g35), by omega, by simp only []; omega, Le.ov ⟨Sub.num (by omega), trivial⟩ ⟨Sub.rfl, Sub.rfl, Sub.rfl, Sub.rfl, Sub.rfl, Sub.rfl, Sub.rfl, trivial⟩ ⟨rfl, obeq (by rw [S.flat_snoc _ hj]; simp [V.ba]), trivial⟩ ⟨rfl, trivial⟩⟩ -- loop 1 next.0
      · (try simp only [decide_eq_true_eq, decide_eq_false_iff_not, Bool.and_eq_true, Bool.or_eq_true, Bool.and_eq_false_iff, Bool.or_eq_false_iff, Bool.not_eq_true', Bool.not_eq_false', beq_iff_eq, Bool.not_eq_eq_eq_not, Bool.not_true, Bool.not_false, List.length_map, Bool.and_true, Bool.and_false, Bool.false_and, Bool.true_and, Bool.or_false, Bool.false_or] at h29)
        have hj : (S.numbers l[i]).take j = S.numbers l[i] := List.take_of_length_le (by omega)
        have o3 := S.flat_le (fun x : Int => V.num x.toNat) 10 ((S.numbers l[i]).take j) (fun x hx => V.num_len64 (by have := f1 x (List.mem_of_mem_take hx); omega))
        rw [List.length_take] at o3
        have k1 := S.text_le f4 (by omega)
        have k2 := S.text_le f5 (by omega)
        have k3 := V.num_len64 (n := l[i].keys.length) (by omega)
        refine Aw_exit ?_
        refine Aw_seq ?_
        refine Aw_draw 13 (by kernel_rfl) (by kernel_rfl) ?_
        refine Dr_pu (Pu_fieldb 6 rfl Try.underlying30 rfl rfl Try.sizeOf9 rfl) rfl rfl ?_
        refine Dr_pu (Pu_loadb rfl Try.isAgg9 rfl rfl rfl) rfl rfl ?_
        refine Dr_pu (Pu_call (text_a _ (by omega)) rfl ⟨Sub.rfl, trivial⟩) rfl rfl ?_
        refine Dr_pu (Pu_fieldb 7 rfl Try.underlying30 rfl rfl Try.sizeOf9 rfl) rfl rfl ?_
        refine Dr_pu (Pu_loadb rfl Try.isAgg9 rfl rfl rfl) rfl rfl ?_
        refine Dr_pu (Pu_call (text_a _ (by omega)) rfl ⟨Sub.rfl, trivial⟩) rfl rfl ?_
        refine Dr_pu (Pu_catB rfl rfl rfl (by simp only [A.maxI]; omega)) rfl rfl ?_
        refine Dr_pu (Pu_fieldb 8 rfl Try.underlying30 rfl rfl Try.sizeOf24 rfl) rfl rfl ?_
        refine Dr_pu (Pu_loadb rfl Try.isAgg24 rfl rfl rfl) rfl rfl ?_
        refine Dr_pu (Pu_len rfl Try.underlying24 rfl (by first | exact List.length_map .. | exact rfl)) rfl rfl ?_
        refine Dr_pu (Pu_conv rfl Try.underlying3 Try.underlying63 rfl (fun hv => u64_nat (by omega) (by simp only [vok, A.inI] at hv; omega))) rfl rfl ?_
        refine Dr_pu (Pu_call (number_a l[i].keys.length (by omega)) rfl ⟨Sub.rfl, trivial⟩) rfl rfl ?_
        refine Dr_pu (Pu_catB rfl rfl rfl (by simp only [List.length_append, A.maxI]; omega)) rfl rfl ?_
        refine Dr_nil ?_
        refine Al_bwrite (k := 3) (k2 := 400) (bs := V.num l.length ++ (l.take i).flatMap S.one ++ (((S.numbers l[i]).take j).flatMap fun x => V.num x.toNat)) rfl rfl rfl (by decide) (by kernel_rfl) rfl rfl (.inr rfl) rfl rfl rfl (by simp only [List.length_append, A.ba_sz]; omega) (fun g50 => ?_)
        refine Al_nil ?_
        refine Aw_seq ?_
        refine Aw_seq ?_
        refine Aw_region ?_
        refine Al_pu (Pu_fieldb 8 rfl Try.underlying30 rfl rfl Try.sizeOf24 rfl) rfl rfl (by decide) (by kernel_rfl) ?_
        refine Al_pu (Pu_loadb rfl Try.isAgg24 rfl rfl rfl) rfl rfl (by decide) (by kernel_rfl) ?_
        refine Al_pu (Pu_len rfl Try.underlying24 rfl (by first | exact List.length_map .. | exact rfl)) rfl rfl (by decide) (by kernel_rfl) ?_
        refine Al_pu (Pu_move (.inl rfl) (by conv => lhs; whnf)) rfl rfl (by decide) (by kernel_rfl) ?_
        refine Al_nil ?_
        refine Aw_block ?_
        have k4 : ∀ s ∈ l[i].keys, (V.text s).length ≤ 42 := fun s hs => S.text_le (f3 s hs) (by omega)
        refine Aw_loopk (ι := Nat × Nat) [3, 5, 16, 17, 18, 52, 53] [5] (fun (m, h2) => [(54, .d (iv m))]) (fun (m, h2) => [(3, g3, .box 57 [.bx 3 g3 0, .ow 400 h2]), (400, h2, .arr 5 1 (byteA (V.num l.length ++ (l.take i).flatMap S.one ++ (((S.numbers l[i]).take j).flatMap fun x => V.num x.toNat) ++ (V.text l[i].key ++ V.text l[i].value ++ V.num l[i].keys.length) ++ ((l[i].keys.take m).flatMap V.text))))]) (fun (m, h2) => m ≤ l[i].keys.length) (fun (m, h2) => l[i].keys.length - m) ((0, g50)) (Nat.zero_le _) ⟨Sub.rfl, trivial⟩ ⟨rfl, obeq (by simp [V.ba]), trivial⟩ ?_
        rintro ⟨m, h2⟩ hk2
        refine Aw_seq ?_
        refine Aw_region ?_
        refine Al_pu (Pu_cmp rfl rfl rfl rfl) rfl rfl (by decide) (by kernel_rfl) ?_
        refine Al_nil ?_
        refine Aw_seq ?_
        refine Aw_cond rfl (fun h55 => ?_) (fun h55 => ?_)
        · (try simp only [decide_eq_true_eq, decide_eq_false_iff_not, Bool.and_eq_true, Bool.or_eq_true, Bool.and_eq_false_iff, Bool.or_eq_false_iff, Bool.not_eq_true', Bool.not_eq_false', beq_iff_eq, Bool.not_eq_eq_eq_not, Bool.not_true, Bool.not_false, List.length_map, Bool.and_true, Bool.and_false, Bool.false_and, Bool.true_and, Bool.or_false, Bool.false_or] at h55)
          have hm : m < l[i].keys.length := by omega
          have m0 := f3 _ (List.getElem_mem hm)
          have m1 := k4 _ (List.getElem_mem hm)
          have m2 := S.flat_le V.text 42 (l[i].keys.take m) (fun s hs => k4 s (List.mem_of_mem_take hs))
          rw [List.length_take] at m2
          refine Aw_skip ?_
          refine Aw_seq ?_
          refine Aw_block ?_
          refine Aw_seq ?_
          refine Aw_region ?_
          refine Al_pu (Pu_index rfl Try.underlying24 Try.sizeOf9 rfl rfl (rfl) (mapget hm)) rfl rfl (by decide) (by kernel_rfl) ?_
          refine Al_pu (Pu_load1 rfl Try.isAgg9 rfl rfl) rfl rfl (by decide) (by kernel_rfl) ?_
          refine Al_pu (Pu_move (.inr rfl) (by conv => lhs; whnf)) rfl rfl (by decide) (by kernel_rfl) ?_
          refine Al_nil ?_
          refine Aw_region ?_
          refine Al_pu (Pu_move (.inl rfl) (by conv => lhs; whnf)) rfl rfl (by decide) (by kernel_rfl) ?_
          refine Al_pu (Pu_call (text_a _ (by omega)) rfl ⟨Sub.rfl, trivial⟩) rfl rfl (by decide) (by kernel_rfl) ?_
          refine Al_bwrite (k := 3) (k2 := 400) (bs := V.num l.length ++ (l.take i).flatMap S.one ++ (((S.numbers l[i]).take j).flatMap fun x => V.num x.toNat) ++ (V.text l[i].key ++ V.text l[i].value ++ V.num l[i].keys.length) ++ ((l[i].keys.take m).flatMap V.text)) rfl rfl rfl (by decide) (by kernel_rfl) rfl rfl (.inr rfl) rfl rfl rfl (by simp only [List.length_append, A.ba_sz]; omega) (fun g60 => ?_)
          refine Al_nil ?_
          refine Aw_region ?_
          refine Al_pu (Pu_add rfl rfl rfl (fun h1 h2 => by simp only [A.inI, A.maxI] at *; omega)) rfl rfl (by decide) (by kernel_rfl) ?_
          refine Al_pu (Pu_move (.inl rfl) (by conv => lhs; whnf)) rfl rfl (by decide) (by kernel_rfl) ?_
          refine Al_nil ?_
          exact ⟨(m + 1, g60), by omega, by simp only []; omega, Le.ov ⟨Sub.num (by omega), trivial⟩ ⟨Sub.rfl, Sub.rfl, Sub.rfl, Sub.rfl, Sub.rfl, Sub.rfl, Sub.rfl, trivial⟩ ⟨rfl, obeq (by rw [S.flat_snoc _ hm]; simp [V.ba]), trivial⟩ ⟨rfl, trivial⟩⟩ -- loop 2 next.0
        · (try simp only [decide_eq_true_eq, decide_eq_false_iff_not, Bool.and_eq_true, Bool.or_eq_true, Bool.and_eq_false_iff, Bool.or_eq_false_iff, Bool.not_eq_true', Bool.not_eq_false', beq_iff_eq, Bool.not_eq_eq_eq_not, Bool.not_true, Bool.not_false, List.length_map, Bool.and_true, Bool.and_false, Bool.false_and, Bool.true_and, Bool.or_false, Bool.false_or] at h55)
          have hm : l[i].keys.take m = l[i].keys := List.take_of_length_le (by omega)
          have m2 := S.flat_le V.text 42 (l[i].keys.take m) (fun s hs => k4 s (List.mem_of_mem_take hs))
          rw [List.length_take] at m2
          refine Aw_exit ?_
          refine Aw_seq ?_
          refine Aw_region ?_
          refine Al_pu (Pu_move (.inr rfl) (by conv => lhs; whnf)) rfl rfl (by decide) (by kernel_rfl) ?_
          refine Al_nil ?_
          -- join 1: live [3, 10, 16, 17, 18], turned [10]
          refine Aw_seq ?_
          refine Aw_seq ?_
          refine Aw_region ?_
          refine Al_pu (Pu_fieldb 9 rfl Try.underlying30 rfl rfl Try.sizeOf28 rfl) rfl rfl (by decide) (by kernel_rfl) ?_
          refine Al_pu (Pu_loadbN (r := [_, _, _]) rfl Try.isAgg28 Try.sizeOf28 rfl rfl rfl rfl) rfl rfl (by decide) (by kernel_rfl) ?_
          refine Al_pu (Pu_call (sempty_a l[i].c hfi.2.1 hfi.2.2.1 hfi.2.2.2) rfl ⟨Sub.rfl, trivial⟩) rfl rfl (by decide) (by kernel_rfl) ?_
          refine Al_pu (Pu_not rfl rfl) rfl rfl (by decide) (by kernel_rfl) ?_
          refine Al_nil ?_
          refine Aw_cond rfl (fun h65 => ?_) (fun h65 => ?_)
          · skip
            have hem : S.empty l[i].c = false := by simpa using h65
            have hw : S.written l[i].c = true := by
              rcases f6 with f6 | f6
              · rw [hem] at f6; cases f6
              · exact f6
            have hrt : S.rowText l[i].c = (if S.written l[i].c then S.rowBytes l[i].c else []) := by unfold S.rowText; rw [hem]; rfl
            have z0 := S.rowText_le hfi.1
            rw [hrt] at z0
            have z1 : (V.ba (if S.written l[i].c then S.rowBytes l[i].c else [])).size ≤ 12000 := by rw [A.ba_sz]; exact z0
            have z2 := S.text_le z1 (by omega)
            refine Aw_region ?_
            refine Al_pu (Pu_fieldb 9 rfl Try.underlying30 rfl rfl Try.sizeOf28 rfl) rfl rfl (by decide) (by kernel_rfl) ?_
            refine Al_pu (Pu_loadbN (r := [_, _, _]) rfl Try.isAgg28 Try.sizeOf28 rfl rfl rfl rfl) rfl rfl (by decide) (by kernel_rfl) ?_
            refine Al_pu (Pu_call (rowbytes_a l[i].c hfi.1) rfl ⟨Sub.rfl, trivial⟩) rfl rfl (by decide) (by kernel_rfl) ?_
            refine Al_pu (Pu_move (.inr rfl) (by conv => lhs; whnf)) rfl rfl (by decide) (by kernel_rfl) ?_
            refine Al_nil ?_
            refine Aw_region ?_
            refine Al_pu (Pu_move (.inl rfl) (by conv => lhs; whnf)) rfl rfl (by decide) (by kernel_rfl) ?_
            refine Al_pu (Pu_call (text_a _ (by first | omega | decide)) rfl ⟨Sub.rfl, trivial⟩) rfl rfl (by decide) (by kernel_rfl) ?_
            refine Al_bwrite (k := 3) (k2 := 400) (bs := V.num l.length ++ (l.take i).flatMap S.one ++ (((S.numbers l[i]).take j).flatMap fun x => V.num x.toNat) ++ (V.text l[i].key ++ V.text l[i].value ++ V.num l[i].keys.length) ++ ((l[i].keys.take m).flatMap V.text)) rfl rfl rfl (by decide) (by kernel_rfl) rfl rfl (.inr rfl) rfl rfl rfl (by simp only [List.length_append, A.ba_sz]; omega) (fun g71 => ?_)
            refine Al_nil ?_
            refine Aw_region ?_
            refine Al_pu (Pu_add rfl rfl rfl (fun h1 h2 => by simp only [A.inI, A.maxI] at *; omega)) rfl rfl (by decide) (by kernel_rfl) ?_
            refine Al_pu (Pu_move (.inl rfl) (by conv => lhs; whnf)) rfl rfl (by decide) (by kernel_rfl) ?_
            refine Al_nil ?_
            exact ⟨(i + 1, g71), ⟨by omega, S.all_snoc hi hall hc⟩, by simp only []; omega, Le.ov ⟨Sub.num (by omega), trivial⟩ ⟨Sub.rfl, Sub.rfl, Sub.rfl, trivial⟩ ⟨rfl, obeq (by rw [S.flat_snoc _ hi, S.one, hrt, hj, hm]; simp [V.ba]), trivial⟩ trivial⟩ -- loop 0 next.0
          · skip
            have hem : S.empty l[i].c = true := by simpa using h65
            have hrt : S.rowText l[i].c = [] := by unfold S.rowText; rw [hem]; rfl
            have z2 : (V.text ⟨#[]⟩).length ≤ 12010 := S.text_le (n := 12000) (by decide) (by omega)
            refine Aw_skip ?_
            refine Aw_region ?_
            refine Al_pu (Pu_move (.inl rfl) (by conv => lhs; whnf)) rfl rfl (by decide) (by kernel_rfl) ?_
            refine Al_pu (Pu_call (text_a _ (by first | omega | decide)) rfl ⟨Sub.rfl, trivial⟩) rfl rfl (by decide) (by kernel_rfl) ?_
            refine Al_bwrite (k := 3) (k2 := 400) (bs := V.num l.length ++ (l.take i).flatMap S.one ++ (((S.numbers l[i]).take j).flatMap fun x => V.num x.toNat) ++ (V.text l[i].key ++ V.text l[i].value ++ V.num l[i].keys.length) ++ ((l[i].keys.take m).flatMap V.text)) rfl rfl rfl (by decide) (by kernel_rfl) rfl rfl (.inr rfl) rfl rfl rfl (by simp only [List.length_append, A.ba_sz]; omega) (fun g71 => ?_)
            refine Al_nil ?_
            refine Aw_region ?_
            refine Al_pu (Pu_add rfl rfl rfl (fun h1 h2 => by simp only [A.inI, A.maxI] at *; omega)) rfl rfl (by decide) (by kernel_rfl) ?_
            refine Al_pu (Pu_move (.inl rfl) (by conv => lhs; whnf)) rfl rfl (by decide) (by kernel_rfl) ?_
            refine Al_nil ?_
            exact ⟨(i + 1, g71), ⟨by omega, S.all_snoc hi hall hc⟩, by simp only []; omega, Le.ov ⟨Sub.num (by omega), trivial⟩ ⟨Sub.rfl, Sub.rfl, Sub.rfl, trivial⟩ ⟨rfl, obeq (by rw [S.flat_snoc _ hi, S.one, hrt, hj, hm]; simp [V.ba]), trivial⟩ trivial⟩ -- loop 0 next.1
  · (try simp only [decide_eq_true_eq, decide_eq_false_iff_not, Bool.and_eq_true, Bool.or_eq_true, Bool.and_eq_false_iff, Bool.or_eq_false_iff, Bool.not_eq_true', Bool.not_eq_false', beq_iff_eq, Bool.not_eq_eq_eq_not, Bool.not_true, Bool.not_false, List.length_map, Bool.and_true, Bool.and_false, Bool.false_and, Bool.true_and, Bool.or_false, Bool.false_or] at h19)
    have hi : l.take i = l := List.take_of_length_le (by omega)
    rw [hi] at hall
    have hal : l.all S.check = true := List.all_eq_true.2 hall
    refine Aw_exit ?_
    refine Aw_seq ?_
    refine Aw_region ?_
    refine Al_bstring (k := 3) (k2 := 400) (bs := V.num l.length ++ (l.take i).flatMap S.one) rfl rfl rfl (by decide) (by kernel_rfl) rfl rfl (.inr rfl) rfl rfl (by have := V.num_pos l.length; intro h; rw [← List.length_eq_zero_iff, List.length_append] at h; omega) ?_
    refine Al_pu (Pu_move (.inr rfl) (by conv => lhs; whnf)) rfl rfl (by decide) (by kernel_rfl) ?_
    refine Al_nil ?_
    refine Aw_ret ?_
    exact Sub.str (by rw [hi]; unfold S.bytes; rw [hal]; rfl) -- ret 1
end Go.Proofs.Ytocgnmklgklfnaa
