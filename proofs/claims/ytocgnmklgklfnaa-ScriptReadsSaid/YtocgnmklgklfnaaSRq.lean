/- The reference's numbers and texts, read: the walks. -/
/- archipelagoref06.ReadRow: the walk. -/
/- archipelagoref22.read: the walk. -/
/- archipelagoref22.Read: the walk. -/
import Derived.Test.YtocgnmklgklfnaaSLw
import Derived.Test.YtocgnmklgklfnaaAU
import Derived.Test.YtocgnmklgklfnaaSCt
set_option linter.unusedSimpArgs false
set_option linter.unusedVariables false
namespace Go.Proofs.Ytocgnmklgklfnaa.A
open Go Go.RowKit
theorem Pu_int_rem {P : Program} {st : ASt} {o : Oper} {t yt : TypeId} {x y : Operand} {k : IntKind} {a b r : Int} (ho : o.op = .binOp .rem t x y yt) (hx : st.ev x = .d (.v (.int k a))) (hy : st.ev y = .d (.v (.int k b))) (hb : b ≠ 0) (hr : a.tmod b = r) (hv : vok (.int k a) → vok (.int k r)) : Pu P st o (.d (.v (.int k r))) :=
  Pu_bin ho hx hy (fun h1 h2 w => by
    simp only [Sem.run_bind, guard_int, Result.andThen_ok, binOp]; simp [Op.intDiv, hb, hr, Sem.run]) (fun h _ => hv h)
end Go.Proofs.Ytocgnmklgklfnaa.A
namespace Go.Proofs.Ytocgnmklgklfnaa
open Go.RowKit A R
namespace V
abbrev two64 : Nat := 18446744073709551616
theorem wrap_u64 (n : Nat) : IntKind.u64.wrap ((n : Nat) : Int) = ((n % two64 : Nat) : Int) := by
  rw [IntKind.wrap_u64]; show _ = ((n % 18446744073709551616 : Nat) : Int); omega
/-- The bytes that were read are the number's own, just if it is read so. -/
theorem rd_check {r t : List UInt8} {c : UInt8} {k acc : Nat} (hk : k ≤ 9) (hdr : r.drop k = c :: t) (hc : c.toNat < 128) (hacc : acc < 128 ^ k) (h : rdB r = comb k acc (rd (c :: t))) : (num ((acc + 128 ^ k * c.toNat) % two64) = r.take (k + 1)) ↔ rdB r = some ((acc + 128 ^ k * c.toNat) % two64, t) := by
  have hsplit : r = r.take (k + 1) ++ t := by
    have h1 : r.drop (k + 1) = t := by
      rw [← List.drop_drop, hdr]; rfl
    rw [← h1, List.take_append_drop]
  constructor
  · intro e
    rw [hsplit, ← e]
    exact rdB_num (Nat.mod_lt _ (by decide)) t
  · intro e
    have e2 := e
    rw [h, comb_last hc] at e2
    split at e2
    · have := (rdB_suf e).2
      rw [hsplit] at this
      exact (List.append_cancel_right this).symm
    · cases e2
theorem rd_eqb (l : List UInt8) (s : ByteArray) (a k : Nat) : ((ba l).toList == (s.extract a (a + k + 1)).toList) = (l == (s.data.toList.drop a).take (k + 1)) := by
  rw [Lib.toList_data, Lib.toList_data, data_ba, ByteArray.data_extract, Array.toList_extract]
  simp only [List.extract]
  rw [show a + k + 1 - a = k + 1 from by omega]
theorem pow_small {k : Nat} (hk : k ≤ 9) : 128 ^ k ≤ 9223372036854775808 := by
  have : (128 : Nat) ^ k ≤ 128 ^ 9 := Nat.pow_le_pow_right (by omega) hk
  omega
theorem gotE_pos {s : ByteArray} {at_ : Nat} : gotE s at_ = 0 ↔ rdB (s.data.toList.drop at_) = none := by
  constructor
  · intro h
    cases hr : rdB (s.data.toList.drop at_) with
    | none => rfl
    | some x =>
      exfalso
      obtain ⟨n, t⟩ := x
      obtain ⟨_, e2, _⟩ := got_some hr
      have h1 := (rdB_suf hr).2
      have h2 := congrArg List.length h1
      rw [List.length_append, List.length_drop, Array.length_toList] at h2
      have := num_pos n
      rw [e2] at h
      have hs : s.data.size = s.size := rfl
      omega
  · exact fun h => (got_none h).2.1
theorem rtE_pos {s : ByteArray} {at_ most : Nat} (hm : most < 18446744073709551616) : rtE s at_ most = 0 ↔ ptext most (s.data.toList.drop at_) = none := by
  constructor
  · intro h
    cases hr : ptext most (s.data.toList.drop at_) with
    | none => rfl
    | some x =>
      exfalso
      obtain ⟨x, t⟩ := x
      obtain ⟨_, e2, _⟩ := rt_some hr
      have h1 := ((ptext_iff hm).1 hr).2
      have h2 := congrArg List.length h1
      rw [List.length_append, List.length_drop, Array.length_toList, text_ba, List.length_append] at h2
      have := num_pos x.length
      rw [e2] at h
      have hs : s.data.size = s.size := rfl
      omega
  · exact fun h => (rt_none h).2.1
end V
set_option maxRecDepth 100000 in
set_option maxHeartbeats 2000000 in
theorem rread_a (s : ByteArray) (at_ : Nat) (hs : s.size ≤ 1000000) (ha : at_ ≤ s.size) : ACall Try.prog 35 [tv s, iv at_] (.row [uv (V.gotN s at_), iv (V.gotE s at_)]) := by
  refine ACall_enterG (fun _ _ => by kernel_rfl) Try.func35 rfl Try.ntmps35 (Reads.cN Try.results35 Try.isAgg72 Try.sizeOf72) (Nat.le_of_ble_eq_true rfl) (fun hok M0 w0 hnl => ?_)
  refine Aw_seq ?_
  refine Aw_region ?_
  refine Al_alloc rfl rfl rfl (by decide) Try.zeroValue72 rfl (by kernel_rfl) (fun g4 => ?_)
  refine Al_nil ?_
  refine Aw_seq ?_
  refine Aw_seq ?_
  refine Aw_region ?_
  refine Al_pu (Pu_move (.inl rfl) (by conv => lhs; whnf)) rfl rfl (by decide) (by kernel_rfl) ?_
  refine Al_pu (Pu_cmp rfl rfl rfl rfl) rfl rfl (by decide) (by kernel_rfl) ?_
  refine Al_nil ?_
  refine Aw_cond rfl (fun h10 => ?_) (fun h10 => ?_)
  · (try simp only [decide_eq_true_eq, decide_eq_false_iff_not, Bool.and_eq_true, Bool.or_eq_true, Bool.and_eq_false_iff, Bool.or_eq_false_iff, Bool.not_eq_true', Bool.not_eq_false', beq_iff_eq, Bool.not_eq_eq_eq_not, Bool.not_true, Bool.not_false, List.length_map, Bool.and_true, Bool.and_false, Bool.false_and, Bool.true_and, Bool.or_false, Bool.false_or] at h10)
    exfalso; omega
  · (try simp only [decide_eq_true_eq, decide_eq_false_iff_not, Bool.and_eq_true, Bool.or_eq_true, Bool.and_eq_false_iff, Bool.or_eq_false_iff, Bool.not_eq_true', Bool.not_eq_false', beq_iff_eq, Bool.not_eq_eq_eq_not, Bool.not_true, Bool.not_false, List.length_map, Bool.and_true, Bool.and_false, Bool.false_and, Bool.true_and, Bool.or_false, Bool.false_or] at h10)
    refine Aw_skip ?_
    refine Aw_seq ?_
    refine Aw_region ?_
    refine Al_pu (Pu_move (.inr rfl) (by conv => lhs; whnf)) rfl rfl (by decide) (by kernel_rfl) ?_
    refine Al_nil ?_
    refine Aw_seq ?_
    refine Aw_region ?_
    refine Al_pu (Pu_move (.inr rfl) (by conv => lhs; whnf)) rfl rfl (by decide) (by kernel_rfl) ?_
    refine Al_nil ?_
    refine Aw_seq ?_
    refine Aw_seq ?_
    refine Aw_region ?_
    refine Al_pu (Pu_move (.inl rfl) (by conv => lhs; whnf)) rfl rfl (by decide) (by kernel_rfl) ?_
    refine Al_pu (Pu_move (.inr rfl) (by conv => lhs; whnf)) rfl rfl (by decide) (by kernel_rfl) ?_
    refine Al_nil ?_
    refine Aw_block ?_
    refine Aw_loopk (ι := Nat × Nat) [0, 1, 4] [4] (fun (k, acc) => [(7, .d (iv ((at_ + k : Nat) : Int))), (5, .d (uv ((acc % V.two64 : Nat) : Int))), (6, .d (uv ((128 ^ k % V.two64 : Nat) : Int)))]) (fun (k, acc) => []) (fun (k, acc) => k ≤ 10 ∧ at_ + k ≤ s.size ∧ acc < 128 ^ k ∧ V.rdB (s.data.toList.drop at_) = V.comb k acc (V.rd (s.data.toList.drop (at_ + k)))) (fun (k, acc) => s.size - (at_ + k)) (0, 0) (⟨by omega, by omega, by simp, rfl⟩) ⟨Sub.num (by omega), Sub.rfl, Sub.rfl, trivial⟩ trivial ?_
    rintro ⟨k, acc⟩ ⟨hk10, hk1, hk3, hk4⟩
    refine Aw_seq ?_
    refine Aw_seq ?_
    refine Aw_region ?_
    refine Al_pu (Pu_move (.inl rfl) (by conv => lhs; whnf)) rfl rfl (by decide) (by kernel_rfl) ?_
    refine Al_pu (Pu_move (.inl rfl) (by conv => lhs; whnf)) rfl rfl (by decide) (by kernel_rfl) ?_
    refine Al_pu (Pu_lenS rfl Try.underlying9 rfl) rfl rfl (by decide) (by kernel_rfl) ?_
    refine Al_pu (Pu_cmp rfl rfl rfl rfl) rfl rfl (by decide) (by kernel_rfl) ?_
    refine Al_pu (Pu_move (.inl rfl) (by conv => lhs; whnf)) rfl rfl (by decide) (by kernel_rfl) ?_
    refine Al_st (St_gd [] rfl rfl rfl rfl trivial (fun hg18 => by exact Pu_move (.inl rfl) (by conv => lhs; whnf))) rfl (by decide) (by kernel_rfl) (by intro j b oj dj h1 h2 h3; cases h1; cases h2; cases h3; decide) ?_
    refine Al_st (St_gd [] rfl rfl rfl rfl trivial (fun hg19 => by exact Pu_move (.inl rfl) (by conv => lhs; whnf))) rfl (by decide) (by kernel_rfl) (by intro j b oj dj h1 h2 h3; cases h1; cases h2; cases h3; decide) ?_
    refine Al_st (St_gd [19] rfl rfl rfl rfl ⟨⟨_, rfl⟩, trivial⟩ (fun hg20 => by exact Pu_add rfl rfl rfl (fun h1 h2 => by simp only [A.inI, A.maxI] at *; omega))) rfl (by decide) (by kernel_rfl) (by intro j b oj dj h1 h2 h3; cases h1; cases h2; cases h3; decide) ?_
    refine Al_st (St_gd [18, 20] rfl rfl rfl rfl ⟨⟨_, rfl⟩, ⟨_, rfl⟩, trivial⟩ (fun hg21 => Pu_cmp rfl rfl rfl rfl)) rfl (by decide) (by kernel_rfl) (by intro j b oj dj h1 h2 h3; cases h1; cases h2; cases h3; decide) ?_
    refine Al_pu (Pu_and rfl rfl rfl rfl) rfl rfl (by decide) (by kernel_rfl) ?_
    refine Al_nil ?_
    refine Aw_cond rfl (fun h22 => ?_) (fun h22 => ?_)
    · (try simp only [decide_eq_true_eq, decide_eq_false_iff_not, Bool.and_eq_true, Bool.or_eq_true, Bool.and_eq_false_iff, Bool.or_eq_false_iff, Bool.not_eq_true', Bool.not_eq_false', beq_iff_eq, Bool.not_eq_eq_eq_not, Bool.not_true, Bool.not_false, List.length_map, Bool.and_true, Bool.and_false, Bool.false_and, Bool.true_and, Bool.or_false, Bool.false_or] at h22)
      obtain ⟨h22a, h22b⟩ := h22
      have hi : at_ + k < s.size := by omega
      have hk9 : k ≤ 9 := by omega
      have hdr : s.data.toList.drop (at_ + k) = s[at_ + k] :: s.data.toList.drop (at_ + k + 1) := by
        rw [List.drop_eq_getElem_cons (by simpa using hi)]; rfl
      rw [hdr] at hk4
      have hcl := UInt8.toNat_lt s[at_ + k]
      have hp9 := V.pow_small hk9
      have q31 : ((s[at_ + k].toNat : Nat) : Int).tmod 128 = ((s[at_ + k].toNat % 128 : Nat) : Int) := by
        rw [Int.tmod_eq_emod_of_nonneg (by omega)]; omega
      have q33 : IntKind.u64.wrap (((s[at_ + k].toNat % 128 : Nat) : Int) * ((128 ^ k % V.two64 : Nat) : Int)) = (((128 ^ k * (s[at_ + k].toNat % 128)) % V.two64 : Nat) : Int) := by
        rw [← Int.natCast_mul, V.wrap_u64, Nat.mul_mod_mod, Nat.mul_comm]
      have q34 : IntKind.u64.wrap (((acc % V.two64 : Nat) : Int) + (((128 ^ k * (s[at_ + k].toNat % 128)) % V.two64 : Nat) : Int)) = (((acc + 128 ^ k * (s[at_ + k].toNat % 128)) % V.two64 : Nat) : Int) := by
        rw [← Int.natCast_add, V.wrap_u64, ← Nat.add_mod]
      have q36 : IntKind.u64.wrap (((128 ^ k % V.two64 : Nat) : Int) * 128) = ((128 ^ (k + 1) % V.two64 : Nat) : Int) := by
        rw [show (128 : Int) = ((128 : Nat) : Int) from rfl, ← Int.natCast_mul, V.wrap_u64, Nat.mod_mul_mod, Nat.pow_succ]
      have u64k : ∀ n : Nat, vok (.int .u64 ((n % V.two64 : Nat) : Int)) := fun n => by
        have := Nat.mod_lt n (show V.two64 > 0 by decide)
        exact ⟨Int.natCast_nonneg _, Int.ofNat_le.2 (Nat.le_of_lt_succ this)⟩
      refine Aw_skip ?_
      refine Aw_seq ?_
      refine Aw_block ?_
      refine Aw_seq ?_
      refine Aw_region ?_
      refine Al_pu (Pu_move (.inl rfl) (by conv => lhs; whnf)) rfl rfl (by decide) (by kernel_rfl) ?_
      refine Al_pu (Pu_move (.inl rfl) (by conv => lhs; whnf)) rfl rfl (by decide) (by kernel_rfl) ?_
      refine Al_pu (Pu_indexS rfl Try.underlying9 rfl rfl (rfl) (getS hi)) rfl rfl (by decide) (by kernel_rfl) ?_
      refine Al_pu (Pu_conv rfl Try.underlying5 Try.underlying63 rfl (fun hv => u64_nat (by omega) (by simp only [vok, A.inI] at hv; omega))) rfl rfl (by decide) (by kernel_rfl) ?_
      refine Al_pu (Pu_move (.inr rfl) (by conv => lhs; whnf)) rfl rfl (by decide) (by kernel_rfl) ?_
      refine Al_nil ?_
      refine Aw_seq ?_
      refine Aw_region ?_
      refine Al_pu (Pu_move (.inl rfl) (by conv => lhs; whnf)) rfl rfl (by decide) (by kernel_rfl) ?_
      refine Al_pu (Pu_move (.inl rfl) (by conv => lhs; whnf)) rfl rfl (by decide) (by kernel_rfl) ?_
      refine Al_pu (Pu_int_rem rfl rfl rfl (by omega) q31 (fun _ => by constructor <;> omega)) rfl rfl (by decide) (by kernel_rfl) ?_
      refine Al_pu (Pu_move (.inl rfl) (by conv => lhs; whnf)) rfl rfl (by decide) (by kernel_rfl) ?_
      refine Al_pu (Pu_int_mul rfl rfl rfl q33 (fun _ => u64k _)) rfl rfl (by decide) (by kernel_rfl) ?_
      refine Al_pu (Pu_int_add rfl rfl rfl q34 (fun _ => u64k _)) rfl rfl (by decide) (by kernel_rfl) ?_
      refine Al_pu (Pu_move (.inr rfl) (by conv => lhs; whnf)) rfl rfl (by decide) (by kernel_rfl) ?_
      refine Al_nil ?_
      refine Aw_seq ?_
      refine Aw_region ?_
      refine Al_pu (Pu_move (.inl rfl) (by conv => lhs; whnf)) rfl rfl (by decide) (by kernel_rfl) ?_
      refine Al_pu (Pu_int_mul rfl rfl rfl q36 (fun _ => u64k _)) rfl rfl (by decide) (by kernel_rfl) ?_
      refine Al_pu (Pu_move (.inr rfl) (by conv => lhs; whnf)) rfl rfl (by decide) (by kernel_rfl) ?_
      refine Al_nil ?_
      refine Aw_seq ?_
      refine Aw_region ?_
      refine Al_pu (Pu_move (.inl rfl) (by conv => lhs; whnf)) rfl rfl (by decide) (by kernel_rfl) ?_
      refine Al_pu (Pu_cmp rfl rfl rfl rfl) rfl rfl (by decide) (by kernel_rfl) ?_
      refine Al_nil ?_
      refine Aw_cond rfl (fun h38 => ?_) (fun h38 => ?_)
      · (try simp only [decide_eq_true_eq, decide_eq_false_iff_not, Bool.and_eq_true, Bool.or_eq_true, Bool.and_eq_false_iff, Bool.or_eq_false_iff, Bool.not_eq_true', Bool.not_eq_false', beq_iff_eq, Bool.not_eq_eq_eq_not, Bool.not_true, Bool.not_false, List.length_map, Bool.and_true, Bool.and_false, Bool.false_and, Bool.true_and, Bool.or_false, Bool.false_or] at h38)
        have hsm : s[at_ + k].toNat < 128 := by omega
        have hmo : s[at_ + k].toNat % 128 = s[at_ + k].toNat := Nat.mod_eq_of_lt hsm
        have hmt := Nat.mod_lt (acc + 128 ^ k * (s[at_ + k].toNat % 128)) (show V.two64 > 0 by decide)
        have hchk := V.rd_check (r := s.data.toList.drop at_) (k := k) hk9 (by rw [List.drop_drop]; exact hdr) hsm hk3 hk4
        refine Aw_seq ?_
        refine Aw_seq ?_
        refine Aw_draw 8 (by kernel_rfl) (by kernel_rfl) ?_
        refine Dr_pu (Pu_move (.inl rfl) (by conv => lhs; whnf)) rfl rfl ?_
        refine Dr_pu (Pu_call (rnumber_a ((acc + 128 ^ k * (s[at_ + k].toNat % 128)) % V.two64) hmt) rfl ⟨Sub.rfl, trivial⟩) rfl rfl ?_
        refine Dr_pu (Pu_move (.inl rfl) (by conv => lhs; whnf)) rfl rfl ?_
        refine Dr_pu (Pu_move (.inl rfl) (by conv => lhs; whnf)) rfl rfl ?_
        refine Dr_pu (Pu_move (.inl rfl) (by conv => lhs; whnf)) rfl rfl ?_
        refine Dr_pu (Pu_add rfl rfl rfl (fun h1 h2 => by simp only [A.inI, A.maxI] at *; omega)) rfl rfl ?_
        refine Dr_pu (Pu_subS (at_) (at_ + k + 1) rfl Try.underlying9 rfl ⟨_, rfl, by omega⟩ ⟨_, rfl, by omega⟩ ⟨by first | omega | (simp; omega), by first | omega | (simp; omega)⟩) rfl rfl ?_
        refine Dr_pu (Pu_str rfl rfl rfl rfl) rfl rfl ?_
        refine Dr_nil ?_
        refine Al_nil ?_
        refine Aw_cond rfl (fun h46 => ?_) (fun h46 => ?_)
        · skip
          have hno : V.rdB (s.data.toList.drop at_) = none := by
            rw [V.rd_eqb] at h46
            rw [hmo] at h46
            have hne : ¬ V.num ((acc + 128 ^ k * s[at_ + k].toNat) % V.two64) = (s.data.toList.drop at_).take (k + 1) := by
              intro e; rw [e] at h46; simp at h46
            have hc := V.comb_last (k := k) (acc := acc) (t := s.data.toList.drop (at_ + k + 1)) hsm
            cases hr : V.rdB (s.data.toList.drop at_) with
            | none => rfl
            | some x =>
              exfalso
              rw [← hk4, hr] at hc
              split at hc
              · rename_i hh
                refine hne (hchk.2 ?_)
                rw [hr, hc, Nat.mod_eq_of_lt hh.2]
              · cases hc
          obtain ⟨e1, e2, e3⟩ := V.got_none hno
          refine Aw_seq ?_
          refine Aw_region ?_
          refine Al_pu (Pu_build (aa := []) rfl Try.underlying72 Try.zeroValue72 (places72 Try.underlying72) (by kernel_rfl) trivial rfl) rfl rfl (by decide) (by kernel_rfl) ?_
          refine Al_storeN rfl rfl rfl (by kernel_rfl) Try.isAgg72 Try.sizeOf72 rfl rfl rfl rfl (Nat.le_of_ble_eq_true rfl) ?_
          refine Al_nil ?_
          refine Aw_ret ?_
          exact ⟨_, _, _, _, _, [_, _], rfl, rfl, rfl, rfl, by rw [e1, e2]; rfl⟩ -- ret 0
        · skip
          have hyes : V.rdB (s.data.toList.drop at_) = some ((acc + 128 ^ k * (s[at_ + k].toNat % 128)) % V.two64, s.data.toList.drop (at_ + k + 1)) := by
            rw [V.rd_eqb] at h46
            rw [hmo] at h46 ⊢
            refine hchk.1 ?_
            simpa using h46
          obtain ⟨e1, e2, e3⟩ := V.got_some hyes
          have elen : (s.data.toList.drop (at_ + k + 1)).length = s.size - (at_ + k + 1) := by rw [List.length_drop]; rfl
          refine Aw_skip ?_
          refine Aw_seq ?_
          refine Aw_region ?_
          refine Al_pu (Pu_move (.inl rfl) (by conv => lhs; whnf)) rfl rfl (by decide) (by kernel_rfl) ?_
          refine Al_pu (Pu_move (.inl rfl) (by conv => lhs; whnf)) rfl rfl (by decide) (by kernel_rfl) ?_
          refine Al_pu (Pu_add rfl rfl rfl (fun h1 h2 => by simp only [A.inI, A.maxI] at *; omega)) rfl rfl (by decide) (by kernel_rfl) ?_
          refine Al_pu (Pu_build (aa := [(0, _), (1, _)]) rfl Try.underlying72 Try.zeroValue72 (places72 Try.underlying72) (by kernel_rfl) ⟨rfl, rfl, rfl, rfl, rfl, rfl, trivial⟩ rfl) rfl rfl (by decide) (by kernel_rfl) ?_
          refine Al_storeN rfl rfl rfl (by kernel_rfl) Try.isAgg72 Try.sizeOf72 rfl rfl rfl rfl (Nat.le_of_ble_eq_true rfl) ?_
          refine Al_nil ?_
          refine Aw_ret ?_
          exact ⟨_, _, _, _, _, [_, _], rfl, rfl, rfl, rfl, by rw [e1, e2, elen, show ((s.size - (s.size - (at_ + k + 1)) : Nat) : Int) = ((at_ + k : Nat) : Int) + 1 from by omega]⟩ -- ret 1
      · (try simp only [decide_eq_true_eq, decide_eq_false_iff_not, Bool.and_eq_true, Bool.or_eq_true, Bool.and_eq_false_iff, Bool.or_eq_false_iff, Bool.not_eq_true', Bool.not_eq_false', beq_iff_eq, Bool.not_eq_eq_eq_not, Bool.not_true, Bool.not_false, List.length_map, Bool.and_true, Bool.and_false, Bool.false_and, Bool.true_and, Bool.or_false, Bool.false_or] at h38)
        have hbg : 128 ≤ s[at_ + k].toNat := by omega
        have hmo : s[at_ + k].toNat % 128 = s[at_ + k].toNat - 128 := by omega
        have hacc : acc + 128 ^ k * (s[at_ + k].toNat % 128) < 128 ^ (k + 1) := by
          have h1 : 128 ^ k * (s[at_ + k].toNat % 128) ≤ 128 ^ k * 127 := Nat.mul_le_mul_left _ (by omega)
          rw [Nat.pow_succ]; omega
        refine Aw_skip ?_
        refine Aw_region ?_
        refine Al_pu (Pu_move (.inl rfl) (by conv => lhs; whnf)) rfl rfl (by decide) (by kernel_rfl) ?_
        refine Al_pu (Pu_add rfl rfl rfl (fun h1 h2 => by simp only [A.inI, A.maxI] at *; omega)) rfl rfl (by decide) (by kernel_rfl) ?_
        refine Al_pu (Pu_move (.inr rfl) (by conv => lhs; whnf)) rfl rfl (by decide) (by kernel_rfl) ?_
        refine Al_nil ?_
        exact ⟨(k + 1, acc + 128 ^ k * (s[at_ + k].toNat % 128)), ⟨by omega, by omega, hacc, by rw [hk4, V.comb_more hbg, hmo]; rfl⟩, by simp only []; omega, Le.ov ⟨Sub.num (by omega), Sub.rfl, Sub.rfl, trivial⟩ ⟨Sub.rfl, Sub.rfl, Sub.rfl, trivial⟩ trivial ⟨rfl, trivial⟩⟩ -- loop 0 next.0
    · (try simp only [decide_eq_true_eq, decide_eq_false_iff_not, Bool.and_eq_true, Bool.or_eq_true, Bool.and_eq_false_iff, Bool.or_eq_false_iff, Bool.not_eq_true', Bool.not_eq_false', beq_iff_eq, Bool.not_eq_eq_eq_not, Bool.not_true, Bool.not_false, List.length_map, Bool.and_true, Bool.and_false, Bool.false_and, Bool.true_and, Bool.or_false, Bool.false_or] at h22)
      have hno : V.rdB (s.data.toList.drop at_) = none := by
        rcases Nat.lt_or_ge k 10 with hk | hk
        · rw [hk4, List.drop_eq_nil_of_le (by show s.size ≤ _; omega)]; rfl
        · rw [hk4]; exact V.comb_far hk _
      obtain ⟨e1, e2, e3⟩ := V.got_none hno
      refine Aw_exit ?_
      refine Aw_seq ?_
      refine Aw_region ?_
      refine Al_pu (Pu_build (aa := []) rfl Try.underlying72 Try.zeroValue72 (places72 Try.underlying72) (by kernel_rfl) trivial rfl) rfl rfl (by decide) (by kernel_rfl) ?_
      refine Al_storeN rfl rfl rfl (by kernel_rfl) Try.isAgg72 Try.sizeOf72 rfl rfl rfl rfl (Nat.le_of_ble_eq_true rfl) ?_
      refine Al_nil ?_
      refine Aw_ret ?_
      exact ⟨_, _, _, _, _, [_, _], rfl, rfl, rfl, rfl, by rw [e1, e2]; rfl⟩ -- ret 2
namespace V
theorem rnum_no {s : ByteArray} {r : List UInt8} {most : Nat} (hr : r <:+ s.data.toList) (h : (decide ((gotE s (pos s r) : Int) = 0) || decide ((most : Int) < (gotN s (pos s r) : Int))) = true) : pnum most r = none := by
  rcases got_cases s (pos s r) with ⟨h1, h2, h3, h4⟩ | ⟨n, t, h1, h2, h3, h4, h5, h6⟩
  · rw [drop_suf hr] at h4
    unfold pnum; rw [h4]
  · have hz : ¬ gotE s (pos s r) = 0 := fun e => by rw [gotE_pos, h4] at e; cases e
    rw [drop_suf hr] at h4
    rw [h2] at h
    simp only [Bool.or_eq_true, decide_eq_true_eq] at h
    unfold pnum; rw [h4]; simp only
    rw [if_neg (by omega)]
theorem rnum_yes {s : ByteArray} {r : List UInt8} {most : Nat} (hr : r <:+ s.data.toList) (h : (decide ((gotE s (pos s r) : Int) = 0) || decide ((most : Int) < (gotN s (pos s r) : Int))) = false) : ∃ n t, pnum most r = some (n, t) ∧ gotN s (pos s r) = n ∧ gotE s (pos s r) = pos s t ∧ t <:+ s.data.toList ∧ n ≤ most := by
  rcases got_cases s (pos s r) with ⟨h1, h2, h3, h4⟩ | ⟨n, t, h1, h2, h3, h4, h5, h6⟩
  · rw [h3] at h; simp at h
  · rw [drop_suf hr] at h4
    rw [h2] at h
    simp only [Bool.or_eq_false_iff, decide_eq_false_iff_not] at h
    refine ⟨n, t, ?_, h2, h3, h6, by omega⟩
    unfold pnum; rw [h4]; simp only
    rw [if_pos (by omega)]
theorem rtxt_no {s : ByteArray} {r : List UInt8} {most : Nat} (hm : most < 18446744073709551616) (hr : r <:+ s.data.toList) (h : (rtE s (pos s r) most : Int) = 0) : ptext most r = none := by
  have := (rtE_pos (s := s) (at_ := pos s r) hm).1 (by omega)
  rwa [drop_suf hr] at this
theorem rtxt_yes {s : ByteArray} {r : List UInt8} {most : Nat} (hm : most < 18446744073709551616) (hr : r <:+ s.data.toList) (h : ¬ (rtE s (pos s r) most : Int) = 0) : ∃ x t, ptext most r = some (x, t) ∧ rtT s (pos s r) most = ba x ∧ rtE s (pos s r) most = pos s t ∧ t <:+ s.data.toList ∧ x.length ≤ most := by
  refine ptext_yes hm hr ?_
  cases hb : rtB s (pos s r) most with
  | true => rfl
  | false =>
    exfalso
    have := (rtE_pos (s := s) (at_ := pos s r) hm).2 (by rw [drop_suf hr]; exact ptext_no hr hb)
    omega
end V
set_option maxRecDepth 100000 in
theorem rreadtext_a (s : ByteArray) (at_ most : Nat) (hs : s.size ≤ 1000000) (ha : at_ ≤ s.size) (hm : most ≤ 1000000) : ACall Try.prog 49 [tv s, iv at_, iv most] (.row [tv (V.rtT s at_ most), iv (V.rtE s at_ most)]) := by
  refine ACall_enterG (fun _ _ => by kernel_rfl) Try.func49 rfl Try.ntmps49 (Reads.cN Try.results49 Try.isAgg92 Try.sizeOf92) (Nat.le_of_ble_eq_true rfl) (fun hok M0 w0 hnl => ?_)
  have hcs := V.got_cases s at_
  have hE : V.gotE s at_ ≤ s.size := by
    rcases hcs with ⟨_, _, h, _⟩ | ⟨n, t, _, _, h, _⟩ <;> omega
  have hN : V.gotN s at_ < 18446744073709551616 := by
    rcases hcs with ⟨_, h, _, _⟩ | ⟨n, t, _, h, _, _, h2, _⟩ <;> omega
  refine Aw_seq ?_
  refine Aw_region ?_
  refine Al_alloc rfl rfl rfl (by decide) Try.zeroValue92 rfl (by kernel_rfl) (fun g6 => ?_)
  refine Al_nil ?_
  refine Aw_seq ?_
  refine Aw_region ?_
  refine Al_pu (Pu_move (.inl rfl) (by conv => lhs; whnf)) rfl rfl (by decide) (by kernel_rfl) ?_
  refine Al_pu (Pu_move (.inl rfl) (by conv => lhs; whnf)) rfl rfl (by decide) (by kernel_rfl) ?_
  refine Al_pu (Pu_call (rread_a s at_ hs ha) rfl ⟨Sub.rfl, Sub.rfl, trivial⟩) rfl rfl (by decide) (by kernel_rfl) ?_
  refine Al_alloc rfl rfl rfl (by decide) Try.zeroValue72 rfl (by kernel_rfl) (fun g7 => ?_)
  refine Al_storeN rfl rfl rfl (by kernel_rfl) Try.isAgg72 Try.sizeOf72 rfl rfl rfl rfl (Nat.le_of_ble_eq_true rfl) ?_
  refine Al_nil ?_
  refine Aw_seq ?_
  refine Aw_seq ?_
  refine Aw_region ?_
  refine Al_pu (Pu_fieldb 1 rfl Try.underlying72 rfl rfl Try.sizeOf3 rfl) rfl rfl (by decide) (by kernel_rfl) ?_
  refine Al_pu (Pu_loadb rfl Try.isAgg3 rfl rfl rfl) rfl rfl (by decide) (by kernel_rfl) ?_
  refine Al_pu (Pu_cmp rfl rfl rfl rfl) rfl rfl (by decide) (by kernel_rfl) ?_
  refine Al_pu (Pu_move (.inl rfl) (by conv => lhs; whnf)) rfl rfl (by decide) (by kernel_rfl) ?_
  refine Al_st (St_gd [] rfl rfl rfl rfl trivial (fun hg16 => by exact Pu_move (.inl rfl) (by conv => lhs; whnf))) rfl (by decide) (by kernel_rfl) (by intro j b oj dj h1 h2 h3; cases h1; cases h2; cases h3; decide) ?_
  refine Al_st (St_gd [16] rfl rfl rfl rfl ⟨⟨_, rfl⟩, trivial⟩ (fun hg17 => Pu_cmp rfl rfl rfl rfl)) rfl (by decide) (by kernel_rfl) (by intro j b oj dj h1 h2 h3; cases h1; cases h2; cases h3; decide) ?_
  refine Al_pu (Pu_or rfl rfl rfl rfl) rfl rfl (by decide) (by kernel_rfl) ?_
  refine Al_pu (Pu_move (.inl rfl) (by conv => lhs; whnf)) rfl rfl (by decide) (by kernel_rfl) ?_
  refine Al_st (St_gd [] rfl rfl rfl rfl trivial (fun hg20 => Pu_fieldb 0 rfl Try.underlying72 rfl rfl Try.sizeOf63 rfl)) rfl (by decide) (by kernel_rfl) (by intro j b oj dj h1 h2 h3; cases h1; cases h2; cases h3; decide) ?_
  refine Al_st (St_gd [20] rfl rfl rfl rfl ⟨⟨_, rfl⟩, trivial⟩ (fun hg21 => Pu_loadb rfl Try.isAgg63 rfl rfl rfl)) rfl (by decide) (by kernel_rfl) (by intro j b oj dj h1 h2 h3; cases h1; cases h2; cases h3; decide) ?_
  refine Al_st (St_gd [] rfl rfl rfl rfl trivial (fun hg22 => by exact Pu_move (.inl rfl) (by conv => lhs; whnf))) rfl (by decide) (by kernel_rfl) (by intro j b oj dj h1 h2 h3; cases h1; cases h2; cases h3; decide) ?_
  refine Al_st (St_gd [22] rfl rfl rfl rfl ⟨⟨_, rfl⟩, trivial⟩ (fun hg23 => by exact Pu_conv rfl Try.underlying3 Try.underlying63 rfl (fun hv => u64_nat (by omega) (by simp only [vok, A.inI] at hv; omega)))) rfl (by decide) (by kernel_rfl) (by intro j b oj dj h1 h2 h3; cases h1; cases h2; cases h3; decide) ?_
  refine Al_st (St_gd [21, 23] rfl rfl rfl rfl ⟨⟨_, rfl⟩, ⟨_, rfl⟩, trivial⟩ (fun hg24 => Pu_cmp rfl rfl rfl rfl)) rfl (by decide) (by kernel_rfl) (by intro j b oj dj h1 h2 h3; cases h1; cases h2; cases h3; decide) ?_
  refine Al_pu (Pu_or rfl rfl rfl rfl) rfl rfl (by decide) (by kernel_rfl) ?_
  refine Al_pu (Pu_move (.inl rfl) (by conv => lhs; whnf)) rfl rfl (by decide) (by kernel_rfl) ?_
  refine Al_st (St_gd [] rfl rfl rfl rfl trivial (fun hg27 => Pu_fieldb 0 rfl Try.underlying72 rfl rfl Try.sizeOf63 rfl)) rfl (by decide) (by kernel_rfl) (by intro j b oj dj h1 h2 h3; cases h1; cases h2; cases h3; decide) ?_
  refine Al_st (St_gd [27] rfl rfl rfl rfl ⟨⟨_, rfl⟩, trivial⟩ (fun hg28 => Pu_loadb rfl Try.isAgg63 rfl rfl rfl)) rfl (by decide) (by kernel_rfl) (by intro j b oj dj h1 h2 h3; cases h1; cases h2; cases h3; decide) ?_
  refine Al_st (St_gd [] rfl rfl rfl rfl trivial (fun hg29 => by exact Pu_move (.inl rfl) (by conv => lhs; whnf))) rfl (by decide) (by kernel_rfl) (by intro j b oj dj h1 h2 h3; cases h1; cases h2; cases h3; decide) ?_
  refine Al_st (St_gd [29] rfl rfl rfl rfl ⟨⟨_, rfl⟩, trivial⟩ (fun hg30 => Pu_lenS rfl Try.underlying9 rfl)) rfl (by decide) (by kernel_rfl) (by intro j b oj dj h1 h2 h3; cases h1; cases h2; cases h3; decide) ?_
  refine Al_st (St_gd [] rfl rfl rfl rfl trivial (fun hg31 => Pu_fieldb 1 rfl Try.underlying72 rfl rfl Try.sizeOf3 rfl)) rfl (by decide) (by kernel_rfl) (by intro j b oj dj h1 h2 h3; cases h1; cases h2; cases h3; decide) ?_
  refine Al_st (St_gd [31] rfl rfl rfl rfl ⟨⟨_, rfl⟩, trivial⟩ (fun hg32 => Pu_loadb rfl Try.isAgg3 rfl rfl rfl)) rfl (by decide) (by kernel_rfl) (by intro j b oj dj h1 h2 h3; cases h1; cases h2; cases h3; decide) ?_
  refine Al_st (St_gd [30, 32] rfl rfl rfl rfl ⟨⟨_, rfl⟩, ⟨_, rfl⟩, trivial⟩ (fun hg33 => by exact Pu_sub rfl rfl rfl (fun h1 h2 => by simp only [A.inI, A.maxI] at *; omega))) rfl (by decide) (by kernel_rfl) (by intro j b oj dj h1 h2 h3; cases h1; cases h2; cases h3; decide) ?_
  refine Al_st (St_gd [33] rfl rfl rfl rfl ⟨⟨_, rfl⟩, trivial⟩ (fun hg34 => by exact Pu_conv rfl Try.underlying3 Try.underlying63 rfl (fun hv => u64_nat (by omega) (by omega)))) rfl (by decide) (by kernel_rfl) (by intro j b oj dj h1 h2 h3; cases h1; cases h2; cases h3; decide) ?_
  refine Al_st (St_gd [28, 34] rfl rfl rfl rfl ⟨⟨_, rfl⟩, ⟨_, rfl⟩, trivial⟩ (fun hg35 => Pu_cmp rfl rfl rfl rfl)) rfl (by decide) (by kernel_rfl) (by intro j b oj dj h1 h2 h3; cases h1; cases h2; cases h3; decide) ?_
  refine Al_pu (Pu_or rfl rfl rfl rfl) rfl rfl (by decide) (by kernel_rfl) ?_
  refine Al_nil ?_
  refine Aw_cond rfl (fun h36 => ?_) (fun h36 => ?_)
  · skip
    have hno : V.ptext most (s.data.toList.drop at_) = none := by
      simp only [Bool.or_eq_true, decide_eq_true_eq] at h36
      unfold V.ptext
      rcases hcs with ⟨h1, h2, h3, h4⟩ | ⟨n, t, h1, h2, h3, h4, h5, h6⟩
      · rw [h4]
      · have hz : ¬ V.gotE s at_ = 0 := fun e => by rw [V.gotE_pos, h4] at e; cases e
        rw [h4]
        have hl := V.suf_len h6
        rw [h2, h3] at h36
        rw [h3] at hz
        simp only
        rw [if_neg]
        rintro ⟨k1, k2⟩
        omega
    obtain ⟨e1, e2, e3⟩ := V.rt_none hno
    refine Aw_seq ?_
    refine Aw_region ?_
    refine Al_pu (Pu_build (aa := []) rfl Try.underlying92 Try.zeroValue92 (places92 Try.underlying92) (by kernel_rfl) trivial rfl) rfl rfl (by decide) (by kernel_rfl) ?_
    refine Al_storeN rfl rfl rfl (by kernel_rfl) Try.isAgg92 Try.sizeOf92 rfl rfl rfl rfl (Nat.le_of_ble_eq_true rfl) ?_
    refine Al_nil ?_
    refine Aw_ret ?_
    exact ⟨_, _, _, _, _, [_, _], rfl, rfl, rfl, rfl, by rw [e1, e2]; rfl⟩ -- ret 0
  · skip
    have hyes : ∃ n t, V.gotN s at_ = n ∧ V.gotE s at_ = s.size - t.length ∧ V.ptext most (s.data.toList.drop at_) = some (t.take n, t.drop n) ∧ n ≤ t.length ∧ t <:+ s.data.toList ∧ n ≤ most := by
      simp only [Bool.or_eq_false_iff, decide_eq_false_iff_not] at h36
      obtain ⟨⟨⟨h38, h39⟩, h40⟩, h41⟩ := h36
      rcases hcs with ⟨h1, h2, h3, h4⟩ | ⟨n, t, h1, h2, h3, h4, h5, h6⟩
      · exact absurd (by rw [h3]; rfl) h38
      · have hl := V.suf_len h6
        rw [h2] at h40 h41
        rw [h3] at h41
        refine ⟨n, t, h2, h3, ?_, by omega, h6, by omega⟩
        unfold V.ptext
        rw [h4]
        simp only
        rw [if_pos ⟨by omega, by omega⟩]
    obtain ⟨n, t, k1, k2, k3, k4, k5, k6⟩ := hyes
    have hl := V.suf_len k5
    obtain ⟨e1, e2, e3⟩ := V.rt_some k3
    rw [k1, k2]
    refine Aw_skip ?_
    refine Aw_seq ?_
    refine Aw_region ?_
    refine Al_pu (Pu_fieldb 1 rfl Try.underlying72 rfl rfl Try.sizeOf3 rfl) rfl rfl (by decide) (by kernel_rfl) ?_
    refine Al_pu (Pu_loadb rfl Try.isAgg3 rfl rfl rfl) rfl rfl (by decide) (by kernel_rfl) ?_
    refine Al_pu (Pu_fieldb 0 rfl Try.underlying72 rfl rfl Try.sizeOf63 rfl) rfl rfl (by decide) (by kernel_rfl) ?_
    refine Al_pu (Pu_loadb rfl Try.isAgg63 rfl rfl rfl) rfl rfl (by decide) (by kernel_rfl) ?_
    refine Al_pu (Pu_conv rfl Try.underlying63 Try.underlying3 rfl (fun hv => i64_nat (by simp only [A.inI]; omega))) rfl rfl (by decide) (by kernel_rfl) ?_
    refine Al_pu (Pu_add rfl rfl rfl (fun h1 h2 => by simp only [A.inI, A.maxI] at *; omega)) rfl rfl (by decide) (by kernel_rfl) ?_
    refine Al_pu (Pu_move (.inr rfl) (by conv => lhs; whnf)) rfl rfl (by decide) (by kernel_rfl) ?_
    refine Al_nil ?_
    refine Aw_seq ?_
    refine Aw_region ?_
    refine Al_pu (Pu_move (.inl rfl) (by conv => lhs; whnf)) rfl rfl (by decide) (by kernel_rfl) ?_
    refine Al_pu (Pu_fieldb 1 rfl Try.underlying72 rfl rfl Try.sizeOf3 rfl) rfl rfl (by decide) (by kernel_rfl) ?_
    refine Al_pu (Pu_loadb rfl Try.isAgg3 rfl rfl rfl) rfl rfl (by decide) (by kernel_rfl) ?_
    refine Al_pu (Pu_move (.inl rfl) (by conv => lhs; whnf)) rfl rfl (by decide) (by kernel_rfl) ?_
    refine Al_pu (Pu_subS ((s.size - t.length)) ((s.size - t.length + n)) rfl Try.underlying9 rfl ⟨_, rfl, by omega⟩ ⟨_, rfl, by omega⟩ ⟨by omega, by omega⟩) rfl rfl (by decide) (by kernel_rfl) ?_
    refine Al_pu (Pu_move (.inl rfl) (by conv => lhs; whnf)) rfl rfl (by decide) (by kernel_rfl) ?_
    refine Al_pu (Pu_build (aa := [(0, _), (1, _)]) rfl Try.underlying92 Try.zeroValue92 (places92 Try.underlying92) (by kernel_rfl) ⟨rfl, rfl, rfl, rfl, rfl, rfl, trivial⟩ rfl) rfl rfl (by decide) (by kernel_rfl) ?_
    refine Al_storeN rfl rfl rfl (by kernel_rfl) Try.isAgg92 Try.sizeOf92 rfl rfl rfl rfl (Nat.le_of_ble_eq_true rfl) ?_
    refine Al_nil ?_
    refine Aw_ret ?_
    exact ⟨_, _, _, _, _, [_, _], rfl, rfl, rfl, rfl, by rw [e1, e2, V.cut_ba s t n k5 k4, List.length_drop, show s.size - (t.length - n) = s.size - t.length + n from by omega]; rfl⟩ -- ret 1
end Go.Proofs.Ytocgnmklgklfnaa

set_option linter.unusedSimpArgs false
set_option linter.unusedVariables false
namespace Go.Proofs.Ytocgnmklgklfnaa
open Go.RowKit A R
namespace V
/-- The row that some bytes tell; whether they are all of them. -/
def prowE (l : List UInt8) : Option (SRow × Bool) := match pnum 8 l with
  | none => none
  | some (n, r) => if n = 0 then none else match pmany (ptext 32) (n - 1) r with
    | none => none
    | some (ts, r2) => match pmany (pnum 63) n r2 with
      | none => none
      | some (os, r3) => match pnum 6 r3 with
        | none => none
        | some (m, r4) => match pmany (pnum 6) m r4 with
          | none => none
          | some (ps, r5) => some (mkRow ts os ps, decide (r5 = []))
theorem prowE_eq (l : List UInt8) : prow0 l = match prowE l with
    | some (c, true) => some c
    | _ => none := by
  unfold prow0 prowE
  cases pnum 8 l with
  | none => rfl
  | some y =>
    obtain ⟨n, r⟩ := y
    simp only
    by_cases hn : n = 0
    · rw [if_pos hn, if_pos hn]
    · rw [if_neg hn, if_neg hn]
      cases pmany (ptext 32) (n - 1) r with
      | none => rfl
      | some y =>
        obtain ⟨ts, r2⟩ := y
        simp only
        cases pmany (pnum 63) n r2 with
        | none => rfl
        | some y =>
          obtain ⟨os, r3⟩ := y
          simp only
          cases pnum 6 r3 with
          | none => rfl
          | some y =>
            obtain ⟨m, r4⟩ := y
            simp only
            cases pmany (pnum 6) m r4 with
            | none => rfl
            | some y =>
              obtain ⟨ps, r5⟩ := y
              simp only
              by_cases h : r5 = []
              · rw [if_pos h, decide_eq_true h]
              · rw [if_neg h, decide_eq_false h]
def prowA (l : List UInt8) : AV := match prowE l with
  | some (c, b) => .tup [.row c.row, bv b]
  | none => .tup [.row (SRow.mk [] [] []).row, bv false]
end V
set_option maxRecDepth 100000 in
set_option maxHeartbeats 2000000 in
theorem rreadrow_a (s : ByteArray) (hs : s.size ≤ 1000000) : ACall Try.prog 50 [tv s] (V.prowA s.data.toList) := by
  refine ACall_enterG (fun _ _ => by kernel_rfl) Try.func50 rfl Try.ntmps50 (Reads.cN1 Try.results50 Try.isAgg28 Try.sizeOf28) (Nat.le_of_ble_eq_true rfl) (fun hok M0 w0 hnl => ?_)
  have hr0 : s.data.toList <:+ s.data.toList := List.suffix_refl _
  have hp0 : V.pos s s.data.toList = 0 := by show s.size - s.data.toList.length = 0; rw [Array.length_toList]; exact Nat.sub_self _
  have hps : ∀ r, V.pos s r ≤ s.size := fun r => Nat.sub_le _ _
  refine Aw_seq ?_
  refine Aw_region ?_
  refine Al_alloc rfl rfl rfl (by decide) Try.zeroValue28 rfl (by kernel_rfl) (fun g2 => ?_)
  refine Al_pu (Pu_move (.inr rfl) (by conv => lhs; whnf)) rfl rfl (by decide) (by kernel_rfl) ?_
  refine Al_nil ?_
  refine Aw_seq ?_
  refine Aw_region ?_
  refine Al_pu (Pu_move (.inl rfl) (by conv => lhs; whnf)) rfl rfl (by decide) (by kernel_rfl) ?_
  have hrd := rread_a s (V.pos s s.data.toList) hs (hps _)
  rw [hp0] at hrd
  refine Al_pu (Pu_call (hrd) rfl ⟨Sub.rfl, Sub.rfl, trivial⟩) rfl rfl (by decide) (by kernel_rfl) ?_
  refine Al_alloc rfl rfl rfl (by decide) Try.zeroValue72 rfl (by kernel_rfl) (fun g4 => ?_)
  refine Al_storeN rfl rfl rfl (by kernel_rfl) Try.isAgg72 Try.sizeOf72 rfl rfl rfl rfl (Nat.le_of_ble_eq_true rfl) ?_
  refine Al_nil ?_
  refine Aw_seq ?_
  refine Aw_seq ?_
  refine Aw_region ?_
  refine Al_pu (Pu_fieldb 1 rfl Try.underlying72 rfl rfl Try.sizeOf3 rfl) rfl rfl (by decide) (by kernel_rfl) ?_
  refine Al_pu (Pu_loadb rfl Try.isAgg3 rfl rfl rfl) rfl rfl (by decide) (by kernel_rfl) ?_
  refine Al_pu (Pu_cmp rfl rfl rfl rfl) rfl rfl (by decide) (by kernel_rfl) ?_
  refine Al_pu (Pu_move (.inl rfl) (by conv => lhs; whnf)) rfl rfl (by decide) (by kernel_rfl) ?_
  refine Al_st (St_gd [] rfl rfl rfl rfl trivial (fun hg22 => Pu_fieldb 0 rfl Try.underlying72 rfl rfl Try.sizeOf63 rfl)) rfl (by decide) (by kernel_rfl) (by intro j b oj dj h1 h2 h3; cases h1; cases h2; cases h3; decide) ?_
  refine Al_st (St_gd [22] rfl rfl rfl rfl ⟨⟨_, rfl⟩, trivial⟩ (fun hg23 => Pu_loadb rfl Try.isAgg63 rfl rfl rfl)) rfl (by decide) (by kernel_rfl) (by intro j b oj dj h1 h2 h3; cases h1; cases h2; cases h3; decide) ?_
  refine Al_st (St_gd [23] rfl rfl rfl rfl ⟨⟨_, rfl⟩, trivial⟩ (fun hg24 => Pu_cmp rfl rfl rfl rfl)) rfl (by decide) (by kernel_rfl) (by intro j b oj dj h1 h2 h3; cases h1; cases h2; cases h3; decide) ?_
  refine Al_pu (Pu_or rfl rfl rfl rfl) rfl rfl (by decide) (by kernel_rfl) ?_
  refine Al_pu (Pu_move (.inl rfl) (by conv => lhs; whnf)) rfl rfl (by decide) (by kernel_rfl) ?_
  refine Al_st (St_gd [] rfl rfl rfl rfl trivial (fun hg27 => Pu_fieldb 0 rfl Try.underlying72 rfl rfl Try.sizeOf63 rfl)) rfl (by decide) (by kernel_rfl) (by intro j b oj dj h1 h2 h3; cases h1; cases h2; cases h3; decide) ?_
  refine Al_st (St_gd [27] rfl rfl rfl rfl ⟨⟨_, rfl⟩, trivial⟩ (fun hg28 => Pu_loadb rfl Try.isAgg63 rfl rfl rfl)) rfl (by decide) (by kernel_rfl) (by intro j b oj dj h1 h2 h3; cases h1; cases h2; cases h3; decide) ?_
  refine Al_st (St_gd [28] rfl rfl rfl rfl ⟨⟨_, rfl⟩, trivial⟩ (fun hg29 => Pu_cmp rfl rfl rfl rfl)) rfl (by decide) (by kernel_rfl) (by intro j b oj dj h1 h2 h3; cases h1; cases h2; cases h3; decide) ?_
  refine Al_pu (Pu_or rfl rfl rfl rfl) rfl rfl (by decide) (by kernel_rfl) ?_
  refine Al_nil ?_
  refine Aw_cond rfl (fun h30 => ?_) (fun h30 => ?_)
  · skip
    have hno : V.prowE s.data.toList = none := by
      rw [Bool.or_assoc, Bool.or_comm (decide ((V.gotN s 0 : Int) < 1)), ← Bool.or_assoc, Bool.or_eq_true, decide_eq_true_eq] at h30
      unfold V.prowE
      cases hb : (decide ((V.gotE s 0 : Int) = 0) || decide ((8 : Int) < (V.gotN s 0 : Int))) with
      | true => rw [V.rnum_no (most := 8) hr0 (by rw [hp0]; exact hb)]
      | false =>
        obtain ⟨n, r, k1, k2, _⟩ := V.rnum_yes (most := 8) hr0 (by rw [hp0]; exact hb)
        rw [hp0] at k2
        rw [k1]
        simp only
        rw [if_pos]
        rcases h30 with h | h
        · rw [hb] at h; cases h
        · omega
    refine Aw_seq ?_
    refine Aw_region ?_
    refine Al_pu (Pu_build (aa := []) rfl Try.underlying28 Try.zeroValue28 (places28 Try.underlying28) (by kernel_rfl) trivial rfl) rfl rfl (by decide) (by kernel_rfl) ?_
    refine Al_storeN rfl rfl rfl (by kernel_rfl) Try.isAgg28 Try.sizeOf28 rfl rfl rfl rfl (Nat.le_of_ble_eq_true rfl) ?_
    refine Al_pu (Pu_move (.inr rfl) (by conv => lhs; whnf)) rfl rfl (by decide) (by kernel_rfl) ?_
    refine Al_nil ?_
    refine Aw_boxle (k := 2) ((SRow.mk [] [] []).row.map .d) rfl ⟨Sub.nil, Sub.nil, Sub.nil, trivial⟩ ?_
    refine Aw_ret ?_
    exact ⟨2, g2, 0, _, _, _, _, rfl, rfl, rfl, rfl, Sub.rfl, by unfold V.prowA; rw [hno]⟩ -- ret 0
  · skip
    rw [Bool.or_assoc, Bool.or_comm (decide ((V.gotN s 0 : Int) < 1)), ← Bool.or_assoc, Bool.or_eq_false_iff, decide_eq_false_iff_not] at h30
    obtain ⟨n, r, k1, k2, k3, hr, hn8⟩ := V.rnum_yes (most := 8) hr0 (by rw [hp0]; exact h30.1)
    rw [hp0] at k2 k3
    have hn1 : 1 ≤ n := by have := h30.2; omega
    rw [k2, k3]
    refine Aw_skip ?_
    refine Aw_seq ?_
    refine Aw_region ?_
    refine Al_pu (Pu_build (aa := []) rfl Try.underlying28 Try.zeroValue28 (places28 Try.underlying28) (by kernel_rfl) trivial rfl) rfl rfl (by decide) (by kernel_rfl) ?_
    refine Al_alloc rfl rfl rfl (by decide) Try.zeroValue28 rfl (by kernel_rfl) (fun g5 => ?_)
    refine Al_storeN rfl rfl rfl (by kernel_rfl) Try.isAgg28 Try.sizeOf28 rfl rfl rfl rfl (Nat.le_of_ble_eq_true rfl) ?_
    refine Al_nil ?_
    refine Aw_seq ?_
    refine Aw_region ?_
    refine Al_pu (Pu_fieldb 1 rfl Try.underlying72 rfl rfl Try.sizeOf3 rfl) rfl rfl (by decide) (by kernel_rfl) ?_
    refine Al_pu (Pu_loadb rfl Try.isAgg3 rfl rfl rfl) rfl rfl (by decide) (by kernel_rfl) ?_
    refine Al_pu (Pu_move (.inr rfl) (by conv => lhs; whnf)) rfl rfl (by decide) (by kernel_rfl) ?_
    refine Al_nil ?_
    refine Aw_seq ?_
    refine Aw_region ?_
    refine Al_pu (Pu_move (.inr rfl) (by conv => lhs; whnf)) rfl rfl (by decide) (by kernel_rfl) ?_
    refine Al_nil ?_
    refine Aw_seq ?_
    refine Aw_seq ?_
    refine Aw_region ?_
    refine Al_pu (Pu_move (.inr rfl) (by conv => lhs; whnf)) rfl rfl (by decide) (by kernel_rfl) ?_
    refine Al_nil ?_
    refine Aw_block ?_
    refine Aw_owncell 0 (k := 5) (k2 := 60) (e := 46) (n := 2) rfl rfl rfl (fun g60 => ?_)
    refine Aw_loopk (ι := Nat × (List (List UInt8)) × (List UInt8) × (List Rng) × Nat) [0, 2, 4, 5] [2, 4] (fun (k, ts, rj, rs, g) => [(8, .d (uv k)), (6, .d (iv (V.pos s rj))), (7, .d (tv (V.lastF ⟨#[]⟩ ts)))]) (fun (k, ts, rj, rs, g) => [(5, g5, .box 28 [.ow 60 g, .d (.v (.slice none 0 0)), .d (.v (.slice none 0 0))]), (60, g, .arr 46 2 (rs.map Rng.row))]) (fun (k, ts, rj, rs, g) => k ≤ n ∧ rj <:+ s.data.toList ∧ rs.length = k ∧ ((k < n ∧ V.pmany (V.ptext 32) k r = some (ts, rj) ∧ rs = V.cutF ⟨#[]⟩ ts) ∨ (k = n ∧ V.pmany (V.ptext 32) (n - 1) r = some (ts, rj) ∧ rs = V.mkR ⟨#[]⟩ ts))) (fun (k, ts, rj, rs, g) => n - k) ((0, [], r, [], g60)) (⟨Nat.zero_le _, ⟨hr, rfl, .inl ⟨hn1, rfl, rfl⟩⟩⟩) ⟨Sub.rfl, Sub.rfl, Sub.rfl, trivial⟩ ⟨rfl, rfl, trivial⟩ ?_
    rintro ⟨k, ts, rj, rs, g⟩ ⟨hk0, ⟨hrj, hrl, hw⟩⟩
    refine Aw_seq ?_
    refine Aw_seq ?_
    skip
    refine Aw_region ?_
    refine Al_pu (Pu_move (.inl rfl) (by conv => lhs; whnf)) rfl rfl (by decide) (by kernel_rfl) ?_
    refine Al_pu (Pu_fieldb 0 rfl Try.underlying72 rfl rfl Try.sizeOf63 rfl) rfl rfl (by decide) (by kernel_rfl) ?_
    refine Al_pu (Pu_loadb rfl Try.isAgg63 rfl rfl rfl) rfl rfl (by decide) (by kernel_rfl) ?_
    refine Al_pu (Pu_cmp rfl rfl rfl rfl) rfl rfl (by decide) (by kernel_rfl) ?_
    refine Al_nil ?_
    refine Aw_cond rfl (fun h38 => ?_) (fun h38 => ?_)
    · (try simp only [decide_eq_true_eq, decide_eq_false_iff_not, Bool.and_eq_true, Bool.or_eq_true, Bool.and_eq_false_iff, Bool.or_eq_false_iff, Bool.not_eq_true', Bool.not_eq_false', beq_iff_eq, Bool.not_eq_eq_eq_not, Bool.not_true, Bool.not_false, List.length_map, Bool.and_true, Bool.and_false, Bool.false_and, Bool.true_and, Bool.or_false, Bool.false_or] at h38)
      obtain ⟨hkn, hpm, hrs⟩ := hw.resolve_right (by omega)
      refine Aw_skip ?_
      -- join 0: live [0, 2, 4, 5, 6, 7, 8], turned [6, 7]
      refine Aw_seq ?_
      refine Aw_block ?_
      refine Aw_seq ?_
      refine Aw_region ?_
      refine Al_pu (Pu_move (.inl rfl) (by conv => lhs; whnf)) rfl rfl (by decide) (by kernel_rfl) ?_
      refine Al_pu (Pu_build (aa := [(0, _)]) rfl Try.underlying46 Try.zeroValue46 (places46 Try.underlying46) (by kernel_rfl) ⟨rfl, rfl, rfl, trivial⟩ rfl) rfl rfl (by decide) (by kernel_rfl) ?_
      refine Al_alloc rfl rfl rfl (by decide) Try.zeroValue46 rfl (by kernel_rfl) (fun g9 => ?_)
      refine Al_storeN rfl rfl rfl (by kernel_rfl) Try.isAgg46 Try.sizeOf46 rfl rfl rfl rfl (Nat.le_of_ble_eq_true rfl) ?_
      refine Al_nil ?_
      -- join 1: live [0, 2, 4, 5, 6, 7, 8, 9], turned [6, 7]
      refine Aw_seq ?_
      refine Aw_seq ?_
      refine Aw_region ?_
      refine Al_pu (Pu_move (.inl rfl) (by conv => lhs; whnf)) rfl rfl (by decide) (by kernel_rfl) ?_
      refine Al_pu (Pu_int_add rfl rfl rfl (u64_nat (by omega) (by omega)).1 (fun _ => (u64_nat (by omega) (by omega)).2)) rfl rfl (by decide) (by kernel_rfl) ?_
      refine Al_pu (Pu_fieldb 0 rfl Try.underlying72 rfl rfl Try.sizeOf63 rfl) rfl rfl (by decide) (by kernel_rfl) ?_
      refine Al_pu (Pu_loadb rfl Try.isAgg63 rfl rfl rfl) rfl rfl (by decide) (by kernel_rfl) ?_
      refine Al_pu (Pu_cmp rfl rfl rfl rfl) rfl rfl (by decide) (by kernel_rfl) ?_
      refine Al_nil ?_
      refine Aw_cond rfl (fun h47 => ?_) (fun h47 => ?_)
      · (try simp only [decide_eq_true_eq, decide_eq_false_iff_not, Bool.and_eq_true, Bool.or_eq_true, Bool.and_eq_false_iff, Bool.or_eq_false_iff, Bool.not_eq_true', Bool.not_eq_false', beq_iff_eq, Bool.not_eq_eq_eq_not, Bool.not_true, Bool.not_false, List.length_map, Bool.and_true, Bool.and_false, Bool.false_and, Bool.true_and, Bool.or_false, Bool.false_or] at h47)
        refine Aw_seq ?_
        refine Aw_region ?_
        refine Al_pu (Pu_move (.inl rfl) (by conv => lhs; whnf)) rfl rfl (by decide) (by kernel_rfl) ?_
        refine Al_pu (Pu_move (.inl rfl) (by conv => lhs; whnf)) rfl rfl (by decide) (by kernel_rfl) ?_
        refine Al_pu (Pu_call (rreadtext_a s (V.pos s rj) 32 hs (hps _) (by omega)) rfl ⟨Sub.rfl, Sub.rfl, Sub.rfl, trivial⟩) rfl rfl (by decide) (by kernel_rfl) ?_
        refine Al_alloc rfl rfl rfl (by decide) Try.zeroValue92 rfl (by kernel_rfl) (fun g10 => ?_)
        refine Al_storeN rfl rfl rfl (by kernel_rfl) Try.isAgg92 Try.sizeOf92 rfl rfl rfl rfl (Nat.le_of_ble_eq_true rfl) ?_
        refine Al_nil ?_
        refine Aw_seq ?_
        refine Aw_seq ?_
        refine Aw_region ?_
        refine Al_pu (Pu_fieldb 1 rfl Try.underlying92 rfl rfl Try.sizeOf3 rfl) rfl rfl (by decide) (by kernel_rfl) ?_
        refine Al_pu (Pu_loadb rfl Try.isAgg3 rfl rfl rfl) rfl rfl (by decide) (by kernel_rfl) ?_
        refine Al_pu (Pu_cmp rfl rfl rfl rfl) rfl rfl (by decide) (by kernel_rfl) ?_
        refine Al_nil ?_
        refine Aw_cond rfl (fun h53 => ?_) (fun h53 => ?_)
        · (try simp only [decide_eq_true_eq, decide_eq_false_iff_not, Bool.and_eq_true, Bool.or_eq_true, Bool.and_eq_false_iff, Bool.or_eq_false_iff, Bool.not_eq_true', Bool.not_eq_false', beq_iff_eq, Bool.not_eq_eq_eq_not, Bool.not_true, Bool.not_false, List.length_map, Bool.and_true, Bool.and_false, Bool.false_and, Bool.true_and, Bool.or_false, Bool.false_or] at h53)
          have hno : V.prowE s.data.toList = none := by
            have hx := V.rtxt_no (by omega) hrj h53
            have hn1 := V.pmany_none (p := V.ptext 32) (k := k + 1) (m := n - 1) (r := r) (by rw [V.pmany_snoc, hpm]; simp only [hx]) (by omega)
            unfold V.prowE
            rw [k1]
            simp only
            rw [if_neg (by omega), hn1]
          refine Aw_seq ?_
          refine Aw_region ?_
          refine Al_pu (Pu_build (aa := []) rfl Try.underlying28 Try.zeroValue28 (places28 Try.underlying28) (by kernel_rfl) trivial rfl) rfl rfl (by decide) (by kernel_rfl) ?_
          refine Al_storeN rfl rfl rfl (by kernel_rfl) Try.isAgg28 Try.sizeOf28 rfl rfl rfl rfl (Nat.le_of_ble_eq_true rfl) ?_
          refine Al_pu (Pu_move (.inr rfl) (by conv => lhs; whnf)) rfl rfl (by decide) (by kernel_rfl) ?_
          refine Al_nil ?_
          refine Aw_boxle (k := 2) ((SRow.mk [] [] []).row.map .d) rfl ⟨Sub.nil, Sub.nil, Sub.nil, trivial⟩ ?_
          refine Aw_ret ?_
          exact ⟨2, g2, 0, _, _, _, _, rfl, rfl, rfl, rfl, Sub.rfl, by unfold V.prowA; rw [hno]⟩ -- ret 1
        · (try simp only [decide_eq_true_eq, decide_eq_false_iff_not, Bool.and_eq_true, Bool.or_eq_true, Bool.and_eq_false_iff, Bool.or_eq_false_iff, Bool.not_eq_true', Bool.not_eq_false', beq_iff_eq, Bool.not_eq_eq_eq_not, Bool.not_true, Bool.not_false, List.length_map, Bool.and_true, Bool.and_false, Bool.false_and, Bool.true_and, Bool.or_false, Bool.false_or] at h53)
          obtain ⟨x, t, hx, k6, k7, ht, hx32⟩ := V.rtxt_yes (by omega) hrj h53
          obtain ⟨hc1, hc2⟩ := V.cutF_snoc ts ⟨#[]⟩ x
          rw [k6, k7]
          refine Aw_skip ?_
          refine Aw_seq ?_
          refine Aw_region ?_
          refine Al_pu (Pu_fieldb 0 rfl Try.underlying92 rfl rfl Try.sizeOf9 rfl) rfl rfl (by decide) (by kernel_rfl) ?_
          refine Al_pu (Pu_loadb rfl Try.isAgg9 rfl rfl rfl) rfl rfl (by decide) (by kernel_rfl) ?_
          refine Al_pu (Pu_fieldb 1 rfl Try.underlying46 rfl rfl Try.sizeOf9 rfl) rfl rfl (by decide) (by kernel_rfl) ?_
          refine Al_store1 rfl rfl rfl (by kernel_rfl) Try.isAgg9 Try.sizeOf9 rfl rfl (Nat.le_of_ble_eq_true rfl) (by conv => lhs; whnf) rfl ?_
          refine Al_nil ?_
          refine Aw_seq ?_
          refine Aw_region ?_
          refine Al_pu (Pu_fieldb 0 rfl Try.underlying92 rfl rfl Try.sizeOf9 rfl) rfl rfl (by decide) (by kernel_rfl) ?_
          refine Al_pu (Pu_loadb rfl Try.isAgg9 rfl rfl rfl) rfl rfl (by decide) (by kernel_rfl) ?_
          refine Al_pu (Pu_move (.inr rfl) (by conv => lhs; whnf)) rfl rfl (by decide) (by kernel_rfl) ?_
          refine Al_nil ?_
          refine Aw_region ?_
          refine Al_pu (Pu_fieldb 1 rfl Try.underlying92 rfl rfl Try.sizeOf3 rfl) rfl rfl (by decide) (by kernel_rfl) ?_
          refine Al_pu (Pu_loadb rfl Try.isAgg3 rfl rfl rfl) rfl rfl (by decide) (by kernel_rfl) ?_
          refine Al_pu (Pu_move (.inr rfl) (by conv => lhs; whnf)) rfl rfl (by decide) (by kernel_rfl) ?_
          refine Al_nil ?_
          refine Aw_region ?_
          refine Al_pu (Pu_fieldb 0 rfl Try.underlying28 rfl rfl Try.sizeOf25 rfl) rfl rfl (by decide) (by kernel_rfl) ?_
          refine Al_pu (Pu_loadb rfl Try.isAgg25 rfl rfl rfl) rfl rfl (by decide) (by kernel_rfl) ?_
          refine Al_pu (Pu_loadbN (r := [_, _]) rfl Try.isAgg46 Try.sizeOf46 rfl rfl rfl rfl) rfl rfl (by decide) (by kernel_rfl) ?_
          refine Al_pu (Pu_slice1 rfl Try.underlying25 Try.sizeOf46 Try.zeroValue46 rfl (by decide) (by decide) (by kernel_rfl) rfl rfl rfl) rfl rfl (by decide) (by kernel_rfl) ?_
          refine Al_append rfl rfl rfl (by decide) (by kernel_rfl) elem25 (by decide) Try.sizeOf46 rfl rfl rfl (by simp; omega) (by decide) (fun g66 => ?_)
          refine Al_pu (Pu_fieldb 0 rfl Try.underlying28 rfl rfl Try.sizeOf25 rfl) rfl rfl (by decide) (by kernel_rfl) ?_
          refine Al_store1 rfl rfl rfl (by kernel_rfl) Try.isAgg25 Try.sizeOf25 rfl rfl (Nat.le_of_ble_eq_true rfl) (by conv => lhs; whnf) rfl ?_
          refine Al_nil ?_
          refine Aw_region ?_
          refine Al_pu (Pu_move (.inl rfl) (by conv => lhs; whnf)) rfl rfl (by decide) (by kernel_rfl) ?_
          refine Al_pu (Pu_int_add rfl rfl rfl (u64_nat (by omega) (by omega)).1 (fun _ => (u64_nat (by omega) (by omega)).2)) rfl rfl (by decide) (by kernel_rfl) ?_
          refine Al_pu (Pu_move (.inr rfl) (by conv => lhs; whnf)) rfl rfl (by decide) (by kernel_rfl) ?_
          refine Al_nil ?_
          exact ⟨(k + 1, (ts ++ [x]), t, rs ++ [⟨V.lastF ⟨#[]⟩ ts, V.ba x⟩], g66), ⟨by omega, ⟨ht, by simp [hrl], .inl ⟨by omega, by rw [V.pmany_snoc, hpm]; simp only [hx], by rw [hc1, hrs]⟩⟩⟩, by simp only []; omega, Le.ov ⟨Sub.num (by omega), Sub.rfl, Sub.str hc2.symm, trivial⟩ ⟨Sub.rfl, Sub.rfl, Sub.rfl, Sub.rfl, trivial⟩ ⟨rfl, obeq (by simp [Rng.row, A.cellsA]), trivial⟩ ⟨rfl, rfl, trivial⟩⟩ -- loop 0 next.0
      · (try simp only [decide_eq_true_eq, decide_eq_false_iff_not, Bool.and_eq_true, Bool.or_eq_true, Bool.and_eq_false_iff, Bool.or_eq_false_iff, Bool.not_eq_true', Bool.not_eq_false', beq_iff_eq, Bool.not_eq_eq_eq_not, Bool.not_true, Bool.not_false, List.length_map, Bool.and_true, Bool.and_false, Bool.false_and, Bool.true_and, Bool.or_false, Bool.false_or] at h47)
        have hkk : k = n - 1 := by omega
        refine Aw_skip ?_
        refine Aw_region ?_
        refine Al_pu (Pu_fieldb 0 rfl Try.underlying28 rfl rfl Try.sizeOf25 rfl) rfl rfl (by decide) (by kernel_rfl) ?_
        refine Al_pu (Pu_loadb rfl Try.isAgg25 rfl rfl rfl) rfl rfl (by decide) (by kernel_rfl) ?_
        refine Al_pu (Pu_loadbN (r := [_, _]) rfl Try.isAgg46 Try.sizeOf46 rfl rfl rfl rfl) rfl rfl (by decide) (by kernel_rfl) ?_
        refine Al_pu (Pu_slice1 rfl Try.underlying25 Try.sizeOf46 Try.zeroValue46 rfl (by decide) (by decide) (by kernel_rfl) rfl rfl rfl) rfl rfl (by decide) (by kernel_rfl) ?_
        refine Al_append rfl rfl rfl (by decide) (by kernel_rfl) elem25 (by decide) Try.sizeOf46 rfl rfl rfl (by simp; omega) (by decide) (fun g66 => ?_)
        refine Al_pu (Pu_fieldb 0 rfl Try.underlying28 rfl rfl Try.sizeOf25 rfl) rfl rfl (by decide) (by kernel_rfl) ?_
        refine Al_store1 rfl rfl rfl (by kernel_rfl) Try.isAgg25 Try.sizeOf25 rfl rfl (Nat.le_of_ble_eq_true rfl) (by conv => lhs; whnf) rfl ?_
        refine Al_nil ?_
        refine Aw_region ?_
        refine Al_pu (Pu_move (.inl rfl) (by conv => lhs; whnf)) rfl rfl (by decide) (by kernel_rfl) ?_
        refine Al_pu (Pu_int_add rfl rfl rfl (u64_nat (by omega) (by omega)).1 (fun _ => (u64_nat (by omega) (by omega)).2)) rfl rfl (by decide) (by kernel_rfl) ?_
        refine Al_pu (Pu_move (.inr rfl) (by conv => lhs; whnf)) rfl rfl (by decide) (by kernel_rfl) ?_
        refine Al_nil ?_
        exact ⟨(k + 1, ts, rj, rs ++ [⟨V.lastF ⟨#[]⟩ ts, ⟨#[]⟩⟩], g66), ⟨by omega, ⟨hrj, by simp [hrl], .inr ⟨by omega, hkk ▸ hpm, by rw [hrs, V.mkR_eq]⟩⟩⟩, by simp only []; omega, Le.ov ⟨Sub.num (by omega), Sub.rfl, Sub.rfl, trivial⟩ ⟨Sub.rfl, Sub.rfl, Sub.rfl, Sub.rfl, trivial⟩ ⟨rfl, obeq (by simp [Rng.row, A.cellsA]), trivial⟩ ⟨rfl, rfl, trivial⟩⟩ -- loop 0 next.1
    · (try simp only [decide_eq_true_eq, decide_eq_false_iff_not, Bool.and_eq_true, Bool.or_eq_true, Bool.and_eq_false_iff, Bool.or_eq_false_iff, Bool.not_eq_true', Bool.not_eq_false', beq_iff_eq, Bool.not_eq_eq_eq_not, Bool.not_true, Bool.not_false, List.length_map, Bool.and_true, Bool.and_false, Bool.false_and, Bool.true_and, Bool.or_false, Bool.false_or] at h38)
      have hkk : k = n := by omega
      obtain ⟨_, hpm, hrs⟩ := hw.resolve_left (by omega)
      refine Aw_exit ?_
      refine Aw_seq ?_
      refine Aw_seq ?_
      refine Aw_region ?_
      refine Al_pu (Pu_move (.inr rfl) (by conv => lhs; whnf)) rfl rfl (by decide) (by kernel_rfl) ?_
      refine Al_nil ?_
      refine Aw_block ?_
      refine Aw_owncell 1 (k := 5) (k2 := 61) (e := 3) (n := 1) rfl rfl rfl (fun g61 => ?_)
      refine Aw_loopk (ι := Nat × (List Nat) × (List UInt8) × Nat) [0, 2, 4, 5] [2, 4, 60] (fun (i, os, ri, g1) => [(11, .d (uv i)), (6, .d (iv (V.pos s ri)))]) (fun (i, os, ri, g1) => [(5, g5, .box 28 [.ow 60 g, .ow 61 g1, .d (.v (.slice none 0 0))]), (61, g1, .arr 3 1 (os.map fun x => [iv ((x : Nat) : Int)]))]) (fun (i, os, ri, g1) => i ≤ n ∧ ri <:+ s.data.toList ∧ os.length = i ∧ V.pmany (V.pnum 63) i rj = some (os, ri)) (fun (i, os, ri, g1) => n - i) ((0, [], rj, g61)) (⟨Nat.zero_le _, ⟨hrj, rfl, rfl⟩⟩) ⟨Sub.rfl, Sub.rfl, trivial⟩ ⟨rfl, rfl, trivial⟩ ?_
      rintro ⟨i, os, ri, g1⟩ ⟨hk1, ⟨hri, hol, hpo⟩⟩
      refine Aw_seq ?_
      refine Aw_seq ?_
      refine Aw_region ?_
      refine Al_pu (Pu_move (.inl rfl) (by conv => lhs; whnf)) rfl rfl (by decide) (by kernel_rfl) ?_
      refine Al_pu (Pu_fieldb 0 rfl Try.underlying72 rfl rfl Try.sizeOf63 rfl) rfl rfl (by decide) (by kernel_rfl) ?_
      refine Al_pu (Pu_loadb rfl Try.isAgg63 rfl rfl rfl) rfl rfl (by decide) (by kernel_rfl) ?_
      refine Al_pu (Pu_cmp rfl rfl rfl rfl) rfl rfl (by decide) (by kernel_rfl) ?_
      refine Al_nil ?_
      refine Aw_cond rfl (fun h71 => ?_) (fun h71 => ?_)
      · (try simp only [decide_eq_true_eq, decide_eq_false_iff_not, Bool.and_eq_true, Bool.or_eq_true, Bool.and_eq_false_iff, Bool.or_eq_false_iff, Bool.not_eq_true', Bool.not_eq_false', beq_iff_eq, Bool.not_eq_eq_eq_not, Bool.not_true, Bool.not_false, List.length_map, Bool.and_true, Bool.and_false, Bool.false_and, Bool.true_and, Bool.or_false, Bool.false_or] at h71)
        refine Aw_skip ?_
        refine Aw_seq ?_
        refine Aw_block ?_
        refine Aw_seq ?_
        refine Aw_region ?_
        refine Al_pu (Pu_move (.inl rfl) (by conv => lhs; whnf)) rfl rfl (by decide) (by kernel_rfl) ?_
        refine Al_pu (Pu_move (.inl rfl) (by conv => lhs; whnf)) rfl rfl (by decide) (by kernel_rfl) ?_
        refine Al_pu (Pu_call (rread_a s (V.pos s ri) hs (hps _)) rfl ⟨Sub.rfl, Sub.rfl, trivial⟩) rfl rfl (by decide) (by kernel_rfl) ?_
        refine Al_alloc rfl rfl rfl (by decide) Try.zeroValue72 rfl (by kernel_rfl) (fun g12 => ?_)
        refine Al_storeN rfl rfl rfl (by kernel_rfl) Try.isAgg72 Try.sizeOf72 rfl rfl rfl rfl (Nat.le_of_ble_eq_true rfl) ?_
        refine Al_nil ?_
        refine Aw_seq ?_
        refine Aw_seq ?_
        refine Aw_region ?_
        refine Al_pu (Pu_fieldb 1 rfl Try.underlying72 rfl rfl Try.sizeOf3 rfl) rfl rfl (by decide) (by kernel_rfl) ?_
        refine Al_pu (Pu_loadb rfl Try.isAgg3 rfl rfl rfl) rfl rfl (by decide) (by kernel_rfl) ?_
        refine Al_pu (Pu_cmp rfl rfl rfl rfl) rfl rfl (by decide) (by kernel_rfl) ?_
        refine Al_pu (Pu_move (.inl rfl) (by conv => lhs; whnf)) rfl rfl (by decide) (by kernel_rfl) ?_
        refine Al_st (St_gd [] rfl rfl rfl rfl trivial (fun hg81 => Pu_fieldb 0 rfl Try.underlying72 rfl rfl Try.sizeOf63 rfl)) rfl (by decide) (by kernel_rfl) (by intro j b oj dj h1 h2 h3; cases h1; cases h2; cases h3; decide) ?_
        refine Al_st (St_gd [81] rfl rfl rfl rfl ⟨⟨_, rfl⟩, trivial⟩ (fun hg82 => Pu_loadb rfl Try.isAgg63 rfl rfl rfl)) rfl (by decide) (by kernel_rfl) (by intro j b oj dj h1 h2 h3; cases h1; cases h2; cases h3; decide) ?_
        refine Al_st (St_gd [82] rfl rfl rfl rfl ⟨⟨_, rfl⟩, trivial⟩ (fun hg83 => Pu_cmp rfl rfl rfl rfl)) rfl (by decide) (by kernel_rfl) (by intro j b oj dj h1 h2 h3; cases h1; cases h2; cases h3; decide) ?_
        refine Al_pu (Pu_or rfl rfl rfl rfl) rfl rfl (by decide) (by kernel_rfl) ?_
        refine Al_nil ?_
        refine Aw_cond rfl (fun h84 => ?_) (fun h84 => ?_)
        · skip
          have hno : V.prowE s.data.toList = none := by
            have hx := V.rnum_no (most := 63) hri h84
            have hxn := V.pmany_none (p := V.pnum 63) (k := i + 1) (m := n) (r := rj) (by rw [V.pmany_snoc, hpo]; simp only [hx]) (by omega)
            unfold V.prowE
            simp only [k1, hpm, hxn]
            rw [if_neg (by omega)]
          refine Aw_seq ?_
          refine Aw_region ?_
          refine Al_pu (Pu_build (aa := []) rfl Try.underlying28 Try.zeroValue28 (places28 Try.underlying28) (by kernel_rfl) trivial rfl) rfl rfl (by decide) (by kernel_rfl) ?_
          refine Al_storeN rfl rfl rfl (by kernel_rfl) Try.isAgg28 Try.sizeOf28 rfl rfl rfl rfl (Nat.le_of_ble_eq_true rfl) ?_
          refine Al_pu (Pu_move (.inr rfl) (by conv => lhs; whnf)) rfl rfl (by decide) (by kernel_rfl) ?_
          refine Al_nil ?_
          refine Aw_boxle (k := 2) ((SRow.mk [] [] []).row.map .d) rfl ⟨Sub.nil, Sub.nil, Sub.nil, trivial⟩ ?_
          refine Aw_ret ?_
          exact ⟨2, g2, 0, _, _, _, _, rfl, rfl, rfl, rfl, Sub.rfl, by unfold V.prowA; rw [hno]⟩ -- ret 2
        · skip
          obtain ⟨x, t, hx, k6, k7, ht, hx63⟩ := V.rnum_yes (most := 63) hri h84
          rw [k6, k7]
          refine Aw_skip ?_
          refine Aw_seq ?_
          refine Aw_region ?_
          refine Al_pu (Pu_fieldb 1 rfl Try.underlying28 rfl rfl Try.sizeOf26 rfl) rfl rfl (by decide) (by kernel_rfl) ?_
          refine Al_pu (Pu_loadb rfl Try.isAgg26 rfl rfl rfl) rfl rfl (by decide) (by kernel_rfl) ?_
          refine Al_pu (Pu_fieldb 0 rfl Try.underlying72 rfl rfl Try.sizeOf63 rfl) rfl rfl (by decide) (by kernel_rfl) ?_
          refine Al_pu (Pu_loadb rfl Try.isAgg63 rfl rfl rfl) rfl rfl (by decide) (by kernel_rfl) ?_
          refine Al_pu (Pu_conv rfl Try.underlying63 Try.underlying3 rfl (fun hv => i64_nat (by simp only [A.inI]; omega))) rfl rfl (by decide) (by kernel_rfl) ?_
          refine Al_pu (Pu_slice1 rfl Try.underlying26 Try.sizeOf3 Try.zeroValue3 rfl (by decide) (by decide) (by kernel_rfl) rfl rfl rfl) rfl rfl (by decide) (by kernel_rfl) ?_
          refine Al_append rfl rfl rfl (by decide) (by kernel_rfl) elem26 (by decide) Try.sizeOf3 rfl rfl rfl (by simp; omega) (by decide) (fun g92 => ?_)
          refine Al_pu (Pu_fieldb 1 rfl Try.underlying28 rfl rfl Try.sizeOf26 rfl) rfl rfl (by decide) (by kernel_rfl) ?_
          refine Al_store1 rfl rfl rfl (by kernel_rfl) Try.isAgg26 Try.sizeOf26 rfl rfl (Nat.le_of_ble_eq_true rfl) (by conv => lhs; whnf) rfl ?_
          refine Al_nil ?_
          refine Aw_region ?_
          refine Al_pu (Pu_fieldb 1 rfl Try.underlying72 rfl rfl Try.sizeOf3 rfl) rfl rfl (by decide) (by kernel_rfl) ?_
          refine Al_pu (Pu_loadb rfl Try.isAgg3 rfl rfl rfl) rfl rfl (by decide) (by kernel_rfl) ?_
          refine Al_pu (Pu_move (.inr rfl) (by conv => lhs; whnf)) rfl rfl (by decide) (by kernel_rfl) ?_
          refine Al_nil ?_
          refine Aw_region ?_
          refine Al_pu (Pu_move (.inl rfl) (by conv => lhs; whnf)) rfl rfl (by decide) (by kernel_rfl) ?_
          refine Al_pu (Pu_int_add rfl rfl rfl (u64_nat (by omega) (by omega)).1 (fun _ => (u64_nat (by omega) (by omega)).2)) rfl rfl (by decide) (by kernel_rfl) ?_
          refine Al_pu (Pu_move (.inr rfl) (by conv => lhs; whnf)) rfl rfl (by decide) (by kernel_rfl) ?_
          refine Al_nil ?_
          exact ⟨(i + 1, (os ++ [x]), t, g92), ⟨by omega, ⟨ht, by simp [hol], by rw [V.pmany_snoc, hpo]; simp only [hx]⟩⟩, by simp only []; omega, Le.ov ⟨Sub.num (by omega), Sub.rfl, trivial⟩ ⟨Sub.rfl, Sub.rfl, Sub.rfl, Sub.rfl, trivial⟩ ⟨rfl, obeq (by simp [A.cellsA]), trivial⟩ ⟨rfl, rfl, rfl, trivial⟩⟩ -- loop 1 next.0
      · (try simp only [decide_eq_true_eq, decide_eq_false_iff_not, Bool.and_eq_true, Bool.or_eq_true, Bool.and_eq_false_iff, Bool.or_eq_false_iff, Bool.not_eq_true', Bool.not_eq_false', beq_iff_eq, Bool.not_eq_eq_eq_not, Bool.not_true, Bool.not_false, List.length_map, Bool.and_true, Bool.and_false, Bool.false_and, Bool.true_and, Bool.or_false, Bool.false_or] at h71)
        have hii : i = n := by omega
        rw [hii] at hpo hol
        refine Aw_exit ?_
        refine Aw_seq ?_
        refine Aw_region ?_
        refine Al_pu (Pu_move (.inl rfl) (by conv => lhs; whnf)) rfl rfl (by decide) (by kernel_rfl) ?_
        refine Al_pu (Pu_move (.inl rfl) (by conv => lhs; whnf)) rfl rfl (by decide) (by kernel_rfl) ?_
        refine Al_pu (Pu_call (rread_a s (V.pos s ri) hs (hps _)) rfl ⟨Sub.rfl, Sub.rfl, trivial⟩) rfl rfl (by decide) (by kernel_rfl) ?_
        refine Al_alloc rfl rfl rfl (by decide) Try.zeroValue72 rfl (by kernel_rfl) (fun g13 => ?_)
        refine Al_storeN rfl rfl rfl (by kernel_rfl) Try.isAgg72 Try.sizeOf72 rfl rfl rfl rfl (Nat.le_of_ble_eq_true rfl) ?_
        refine Al_nil ?_
        refine Aw_seq ?_
        refine Aw_seq ?_
        refine Aw_region ?_
        refine Al_pu (Pu_fieldb 1 rfl Try.underlying72 rfl rfl Try.sizeOf3 rfl) rfl rfl (by decide) (by kernel_rfl) ?_
        refine Al_pu (Pu_loadb rfl Try.isAgg3 rfl rfl rfl) rfl rfl (by decide) (by kernel_rfl) ?_
        refine Al_pu (Pu_cmp rfl rfl rfl rfl) rfl rfl (by decide) (by kernel_rfl) ?_
        refine Al_pu (Pu_move (.inl rfl) (by conv => lhs; whnf)) rfl rfl (by decide) (by kernel_rfl) ?_
        refine Al_st (St_gd [] rfl rfl rfl rfl trivial (fun hg103 => Pu_fieldb 0 rfl Try.underlying72 rfl rfl Try.sizeOf63 rfl)) rfl (by decide) (by kernel_rfl) (by intro j b oj dj h1 h2 h3; cases h1; cases h2; cases h3; decide) ?_
        refine Al_st (St_gd [103] rfl rfl rfl rfl ⟨⟨_, rfl⟩, trivial⟩ (fun hg104 => Pu_loadb rfl Try.isAgg63 rfl rfl rfl)) rfl (by decide) (by kernel_rfl) (by intro j b oj dj h1 h2 h3; cases h1; cases h2; cases h3; decide) ?_
        refine Al_st (St_gd [104] rfl rfl rfl rfl ⟨⟨_, rfl⟩, trivial⟩ (fun hg105 => Pu_cmp rfl rfl rfl rfl)) rfl (by decide) (by kernel_rfl) (by intro j b oj dj h1 h2 h3; cases h1; cases h2; cases h3; decide) ?_
        refine Al_pu (Pu_or rfl rfl rfl rfl) rfl rfl (by decide) (by kernel_rfl) ?_
        refine Al_nil ?_
        refine Aw_cond rfl (fun h106 => ?_) (fun h106 => ?_)
        · skip
          have hno : V.prowE s.data.toList = none := by
            have hx := V.rnum_no (most := 6) hri h106
            unfold V.prowE
            simp only [k1, hpm, hpo, hx]
            rw [if_neg (by omega)]
          refine Aw_seq ?_
          refine Aw_region ?_
          refine Al_pu (Pu_build (aa := []) rfl Try.underlying28 Try.zeroValue28 (places28 Try.underlying28) (by kernel_rfl) trivial rfl) rfl rfl (by decide) (by kernel_rfl) ?_
          refine Al_storeN rfl rfl rfl (by kernel_rfl) Try.isAgg28 Try.sizeOf28 rfl rfl rfl rfl (Nat.le_of_ble_eq_true rfl) ?_
          refine Al_pu (Pu_move (.inr rfl) (by conv => lhs; whnf)) rfl rfl (by decide) (by kernel_rfl) ?_
          refine Al_nil ?_
          refine Aw_boxle (k := 2) ((SRow.mk [] [] []).row.map .d) rfl ⟨Sub.nil, Sub.nil, Sub.nil, trivial⟩ ?_
          refine Aw_ret ?_
          exact ⟨2, g2, 0, _, _, _, _, rfl, rfl, rfl, rfl, Sub.rfl, by unfold V.prowA; rw [hno]⟩ -- ret 3
        · skip
          obtain ⟨m, r4, k8, k9, k10, hr4, hm6⟩ := V.rnum_yes (most := 6) hri h106
          rw [k9, k10]
          refine Aw_skip ?_
          refine Aw_seq ?_
          refine Aw_region ?_
          refine Al_pu (Pu_fieldb 1 rfl Try.underlying72 rfl rfl Try.sizeOf3 rfl) rfl rfl (by decide) (by kernel_rfl) ?_
          refine Al_pu (Pu_loadb rfl Try.isAgg3 rfl rfl rfl) rfl rfl (by decide) (by kernel_rfl) ?_
          refine Al_pu (Pu_move (.inr rfl) (by conv => lhs; whnf)) rfl rfl (by decide) (by kernel_rfl) ?_
          refine Al_nil ?_
          refine Aw_seq ?_
          refine Aw_seq ?_
          refine Aw_region ?_
          refine Al_pu (Pu_move (.inr rfl) (by conv => lhs; whnf)) rfl rfl (by decide) (by kernel_rfl) ?_
          refine Al_nil ?_
          refine Aw_block ?_
          refine Aw_owncell 2 (k := 5) (k2 := 62) (e := 3) (n := 1) rfl rfl rfl (fun g62 => ?_)
          refine Aw_loopk (ι := Nat × (List Nat) × (List UInt8) × Nat) [0, 2, 5, 13] [2, 13, 60, 61] (fun (j, qs, rl, g2') => [(14, .d (uv j)), (6, .d (iv (V.pos s rl)))]) (fun (j, qs, rl, g2') => [(5, g5, .box 28 [.ow 60 g, .ow 61 g1, .ow 62 g2']), (62, g2', .arr 3 1 (qs.map fun x => [iv (((x : Nat) : Int) - 1)]))]) (fun (j, qs, rl, g2') => j ≤ m ∧ rl <:+ s.data.toList ∧ qs.length = j ∧ V.pmany (V.pnum 6) j r4 = some (qs, rl)) (fun (j, qs, rl, g2') => m - j) ((0, [], r4, g62)) (⟨Nat.zero_le _, ⟨hr4, rfl, rfl⟩⟩) ⟨Sub.rfl, Sub.rfl, trivial⟩ ⟨rfl, rfl, trivial⟩ ?_
          rintro ⟨j, qs, rl, g2'⟩ ⟨hk2, ⟨hrl', hql, hpq⟩⟩
          refine Aw_seq ?_
          refine Aw_seq ?_
          refine Aw_region ?_
          refine Al_pu (Pu_move (.inl rfl) (by conv => lhs; whnf)) rfl rfl (by decide) (by kernel_rfl) ?_
          refine Al_pu (Pu_fieldb 0 rfl Try.underlying72 rfl rfl Try.sizeOf63 rfl) rfl rfl (by decide) (by kernel_rfl) ?_
          refine Al_pu (Pu_loadb rfl Try.isAgg63 rfl rfl rfl) rfl rfl (by decide) (by kernel_rfl) ?_
          refine Al_pu (Pu_cmp rfl rfl rfl rfl) rfl rfl (by decide) (by kernel_rfl) ?_
          refine Al_nil ?_
          refine Aw_cond rfl (fun h113 => ?_) (fun h113 => ?_)
          · (try simp only [decide_eq_true_eq, decide_eq_false_iff_not, Bool.and_eq_true, Bool.or_eq_true, Bool.and_eq_false_iff, Bool.or_eq_false_iff, Bool.not_eq_true', Bool.not_eq_false', beq_iff_eq, Bool.not_eq_eq_eq_not, Bool.not_true, Bool.not_false, List.length_map, Bool.and_true, Bool.and_false, Bool.false_and, Bool.true_and, Bool.or_false, Bool.false_or] at h113)
            refine Aw_skip ?_
            refine Aw_seq ?_
            refine Aw_block ?_
            refine Aw_seq ?_
            refine Aw_region ?_
            refine Al_pu (Pu_move (.inl rfl) (by conv => lhs; whnf)) rfl rfl (by decide) (by kernel_rfl) ?_
            refine Al_pu (Pu_move (.inl rfl) (by conv => lhs; whnf)) rfl rfl (by decide) (by kernel_rfl) ?_
            refine Al_pu (Pu_call (rread_a s (V.pos s rl) hs (hps _)) rfl ⟨Sub.rfl, Sub.rfl, trivial⟩) rfl rfl (by decide) (by kernel_rfl) ?_
            refine Al_alloc rfl rfl rfl (by decide) Try.zeroValue72 rfl (by kernel_rfl) (fun g15 => ?_)
            refine Al_storeN rfl rfl rfl (by kernel_rfl) Try.isAgg72 Try.sizeOf72 rfl rfl rfl rfl (Nat.le_of_ble_eq_true rfl) ?_
            refine Al_nil ?_
            refine Aw_seq ?_
            refine Aw_seq ?_
            refine Aw_region ?_
            refine Al_pu (Pu_fieldb 1 rfl Try.underlying72 rfl rfl Try.sizeOf3 rfl) rfl rfl (by decide) (by kernel_rfl) ?_
            refine Al_pu (Pu_loadb rfl Try.isAgg3 rfl rfl rfl) rfl rfl (by decide) (by kernel_rfl) ?_
            refine Al_pu (Pu_cmp rfl rfl rfl rfl) rfl rfl (by decide) (by kernel_rfl) ?_
            refine Al_pu (Pu_move (.inl rfl) (by conv => lhs; whnf)) rfl rfl (by decide) (by kernel_rfl) ?_
            refine Al_st (St_gd [] rfl rfl rfl rfl trivial (fun hg123 => Pu_fieldb 0 rfl Try.underlying72 rfl rfl Try.sizeOf63 rfl)) rfl (by decide) (by kernel_rfl) (by intro j b oj dj h1 h2 h3; cases h1; cases h2; cases h3; decide) ?_
            refine Al_st (St_gd [123] rfl rfl rfl rfl ⟨⟨_, rfl⟩, trivial⟩ (fun hg124 => Pu_loadb rfl Try.isAgg63 rfl rfl rfl)) rfl (by decide) (by kernel_rfl) (by intro j b oj dj h1 h2 h3; cases h1; cases h2; cases h3; decide) ?_
            refine Al_st (St_gd [124] rfl rfl rfl rfl ⟨⟨_, rfl⟩, trivial⟩ (fun hg125 => Pu_cmp rfl rfl rfl rfl)) rfl (by decide) (by kernel_rfl) (by intro j b oj dj h1 h2 h3; cases h1; cases h2; cases h3; decide) ?_
            refine Al_pu (Pu_or rfl rfl rfl rfl) rfl rfl (by decide) (by kernel_rfl) ?_
            refine Al_nil ?_
            refine Aw_cond rfl (fun h126 => ?_) (fun h126 => ?_)
            · skip
              have hno : V.prowE s.data.toList = none := by
                have hx := V.rnum_no (most := 6) hrl' h126
                have hxn := V.pmany_none (p := V.pnum 6) (k := j + 1) (m := m) (r := r4) (by rw [V.pmany_snoc, hpq]; simp only [hx]) (by omega)
                unfold V.prowE
                simp only [k1, hpm, hpo, k8, hxn]
                rw [if_neg (by omega)]
              refine Aw_seq ?_
              refine Aw_region ?_
              refine Al_pu (Pu_build (aa := []) rfl Try.underlying28 Try.zeroValue28 (places28 Try.underlying28) (by kernel_rfl) trivial rfl) rfl rfl (by decide) (by kernel_rfl) ?_
              refine Al_storeN rfl rfl rfl (by kernel_rfl) Try.isAgg28 Try.sizeOf28 rfl rfl rfl rfl (Nat.le_of_ble_eq_true rfl) ?_
              refine Al_pu (Pu_move (.inr rfl) (by conv => lhs; whnf)) rfl rfl (by decide) (by kernel_rfl) ?_
              refine Al_nil ?_
              refine Aw_boxle (k := 2) ((SRow.mk [] [] []).row.map .d) rfl ⟨Sub.nil, Sub.nil, Sub.nil, trivial⟩ ?_
              refine Aw_ret ?_
              exact ⟨2, g2, 0, _, _, _, _, rfl, rfl, rfl, rfl, Sub.rfl, by unfold V.prowA; rw [hno]⟩ -- ret 4
            · skip
              obtain ⟨x, t, hx, k6, k7, ht, hx63⟩ := V.rnum_yes (most := 6) hrl' h126
              rw [k6, k7]
              refine Aw_skip ?_
              refine Aw_seq ?_
              refine Aw_region ?_
              refine Al_pu (Pu_fieldb 2 rfl Try.underlying28 rfl rfl Try.sizeOf26 rfl) rfl rfl (by decide) (by kernel_rfl) ?_
              refine Al_pu (Pu_loadb rfl Try.isAgg26 rfl rfl rfl) rfl rfl (by decide) (by kernel_rfl) ?_
              refine Al_pu (Pu_fieldb 0 rfl Try.underlying72 rfl rfl Try.sizeOf63 rfl) rfl rfl (by decide) (by kernel_rfl) ?_
              refine Al_pu (Pu_loadb rfl Try.isAgg63 rfl rfl rfl) rfl rfl (by decide) (by kernel_rfl) ?_
              refine Al_pu (Pu_conv rfl Try.underlying63 Try.underlying3 rfl (fun hv => i64_nat (by simp only [A.inI]; omega))) rfl rfl (by decide) (by kernel_rfl) ?_
              refine Al_pu (Pu_sub rfl rfl rfl (fun h1 h2 => by simp only [A.inI, A.maxI] at *; omega)) rfl rfl (by decide) (by kernel_rfl) ?_
              refine Al_pu (Pu_slice1 rfl Try.underlying26 Try.sizeOf3 Try.zeroValue3 rfl (by decide) (by decide) (by kernel_rfl) rfl rfl rfl) rfl rfl (by decide) (by kernel_rfl) ?_
              refine Al_append rfl rfl rfl (by decide) (by kernel_rfl) elem26 (by decide) Try.sizeOf3 rfl rfl rfl (by simp; omega) (by decide) (fun g135 => ?_)
              refine Al_pu (Pu_fieldb 2 rfl Try.underlying28 rfl rfl Try.sizeOf26 rfl) rfl rfl (by decide) (by kernel_rfl) ?_
              refine Al_store1 rfl rfl rfl (by kernel_rfl) Try.isAgg26 Try.sizeOf26 rfl rfl (Nat.le_of_ble_eq_true rfl) (by conv => lhs; whnf) rfl ?_
              refine Al_nil ?_
              refine Aw_region ?_
              refine Al_pu (Pu_fieldb 1 rfl Try.underlying72 rfl rfl Try.sizeOf3 rfl) rfl rfl (by decide) (by kernel_rfl) ?_
              refine Al_pu (Pu_loadb rfl Try.isAgg3 rfl rfl rfl) rfl rfl (by decide) (by kernel_rfl) ?_
              refine Al_pu (Pu_move (.inr rfl) (by conv => lhs; whnf)) rfl rfl (by decide) (by kernel_rfl) ?_
              refine Al_nil ?_
              refine Aw_region ?_
              refine Al_pu (Pu_move (.inl rfl) (by conv => lhs; whnf)) rfl rfl (by decide) (by kernel_rfl) ?_
              refine Al_pu (Pu_int_add rfl rfl rfl (u64_nat (by omega) (by omega)).1 (fun _ => (u64_nat (by omega) (by omega)).2)) rfl rfl (by decide) (by kernel_rfl) ?_
              refine Al_pu (Pu_move (.inr rfl) (by conv => lhs; whnf)) rfl rfl (by decide) (by kernel_rfl) ?_
              refine Al_nil ?_
              exact ⟨(j + 1, (qs ++ [x]), t, g135), ⟨by omega, ⟨ht, by simp [hql], by rw [V.pmany_snoc, hpq]; simp only [hx]⟩⟩, by simp only []; omega, Le.ov ⟨Sub.num (by omega), Sub.rfl, trivial⟩ ⟨Sub.rfl, Sub.rfl, Sub.rfl, Sub.rfl, trivial⟩ ⟨rfl, obeq (by simp [A.cellsA]), trivial⟩ ⟨rfl, rfl, rfl, rfl, trivial⟩⟩ -- loop 2 next.0
          · (try simp only [decide_eq_true_eq, decide_eq_false_iff_not, Bool.and_eq_true, Bool.or_eq_true, Bool.and_eq_false_iff, Bool.or_eq_false_iff, Bool.not_eq_true', Bool.not_eq_false', beq_iff_eq, Bool.not_eq_eq_eq_not, Bool.not_true, Bool.not_false, List.length_map, Bool.and_true, Bool.and_false, Bool.false_and, Bool.true_and, Bool.or_false, Bool.false_or] at h113)
            have hjj : j = m := by omega
            rw [hjj] at hpq hql
            refine Aw_exit ?_
            refine Aw_seq ?_
            refine Aw_frzc 0 (k := 60) (kb := 5) hnl [] rfl rfl rfl rfl trivial ?_
            refine Aw_frzc 1 (k := 61) (kb := 5) hnl [] rfl rfl rfl rfl trivial ?_
            refine Aw_frzc 2 (k := 62) (kb := 5) hnl [] rfl rfl rfl rfl trivial ?_
            have hyes : V.prowE s.data.toList = some (V.mkRow ts os qs, decide (rl = [])) := by
              unfold V.prowE
              simp only [k1, hpm, hpo, k8, hpq]
              rw [if_neg (by omega)]
            have hlen := V.suf_len hrl'
            have hend : decide ((V.pos s rl : Int) = (s.size : Int)) = decide (rl = []) := by
              refine decide_eq_decide.2 ⟨fun h => List.eq_nil_of_length_eq_zero ?_, fun h => ?_⟩
              · have h8 : ((s.size - rl.length : Nat) : Int) = s.size := h
                omega
              · rw [h]; show ((s.size - 0 : Nat) : Int) = _; rw [Nat.sub_zero]
            refine Aw_region ?_
            refine Al_pu (Pu_loadbN (r := [_, _, _]) rfl Try.isAgg28 Try.sizeOf28 rfl rfl rfl rfl) rfl rfl (by decide) (by kernel_rfl) ?_
            refine Al_pu (Pu_move (.inl rfl) (by conv => lhs; whnf)) rfl rfl (by decide) (by kernel_rfl) ?_
            refine Al_pu (Pu_move (.inl rfl) (by conv => lhs; whnf)) rfl rfl (by decide) (by kernel_rfl) ?_
            refine Al_pu (Pu_lenS rfl Try.underlying9 rfl) rfl rfl (by decide) (by kernel_rfl) ?_
            refine Al_pu (Pu_cmp rfl rfl rfl rfl) rfl rfl (by decide) (by kernel_rfl) ?_
            refine Al_storeN rfl rfl rfl (by kernel_rfl) Try.isAgg28 Try.sizeOf28 rfl rfl rfl rfl (Nat.le_of_ble_eq_true rfl) ?_
            refine Al_pu (Pu_move (.inr rfl) (by conv => lhs; whnf)) rfl rfl (by decide) (by kernel_rfl) ?_
            refine Al_nil ?_
            refine Aw_ret ?_
            exact ⟨2, g2, 0, _, _, [_, _, _], _, rfl, rfl, rfl, rfl, Sub.rfl, by unfold V.prowA; rw [hyes, hend]; unfold V.mkRow SRow.row; simp only [hrs, List.map_map]; rfl⟩ -- ret 5
end Go.Proofs.Ytocgnmklgklfnaa

set_option linter.unusedSimpArgs false
set_option linter.unusedVariables false
namespace Go.Proofs.Ytocgnmklgklfnaa
open Go.RowKit A R
namespace V
theorem pmany_inv {α : Type} {p : List UInt8 → Option (α × List UInt8)} {enc : α → List UInt8} {Q : α → Prop} (hp : ∀ r x t, p r = some (x, t) → r = enc x ++ t ∧ Q x) : ∀ (k : Nat) (r : List UInt8) (xs : List α) (t : List UInt8), pmany p k r = some (xs, t) → r = xs.flatMap enc ++ t ∧ xs.length = k ∧ ∀ x ∈ xs, Q x
  | 0, r, xs, t, h => by
    simp only [pmany, Option.some.injEq, Prod.mk.injEq] at h
    obtain ⟨rfl, rfl⟩ := h
    exact ⟨rfl, rfl, fun x hx => by cases hx⟩
  | k + 1, r, xs, t, h => by
    simp only [pmany] at h
    split at h
    · cases h
    · rename_i x t1 h1
      split at h
      · cases h
      · rename_i ys t2 h2
        simp only [Option.some.injEq, Prod.mk.injEq] at h
        obtain ⟨rfl, rfl⟩ := h
        obtain ⟨e1, q1⟩ := hp _ _ _ h1
        obtain ⟨e2, e3, e4⟩ := pmany_inv hp k _ _ _ h2
        refine ⟨by rw [e1, e2]; simp, by simp [e3], fun y hy => ?_⟩
        rcases List.mem_cons.1 hy with rfl | hy
        · exact q1
        · exact e4 y hy
theorem pnums_inv {most k : Nat} (hm : most < 18446744073709551616) {r t : List UInt8} {xs : List Nat} (h : pmany (pnum most) k r = some (xs, t)) : r = xs.flatMap num ++ t ∧ xs.length = k ∧ ∀ x ∈ xs, x ≤ most :=
  pmany_inv (enc := num) (Q := fun x => x ≤ most) (fun r x t h => ⟨((pnum_iff hm).1 h).2, ((pnum_iff hm).1 h).1⟩) k r xs t h
theorem ptexts_inv {most k : Nat} (hm : most < 18446744073709551616) {r t : List UInt8} {xs : List (List UInt8)} (h : pmany (ptext most) k r = some (xs, t)) : r = (xs.flatMap fun x => text (ba x)) ++ t ∧ xs.length = k ∧ ∀ x ∈ xs, x.length ≤ most :=
  pmany_inv (enc := fun x => text (ba x)) (Q := fun x => x.length ≤ most) (fun r x t h => ⟨((ptext_iff hm).1 h).2, ((ptext_iff hm).1 h).1⟩) k r xs t h
theorem mkR_fits : ∀ (ts : List (List UInt8)) (fr : ByteArray), fr.size ≤ 32 → (∀ t ∈ ts, t.length ≤ 32) → ∀ r ∈ mkR fr ts, r.f.size ≤ 32 ∧ r.t.size ≤ 32
  | [], fr, h, _, r, hr => by
    rw [List.mem_singleton.1 hr]
    exact ⟨h, by show 0 ≤ 32; omega⟩
  | t :: ts, fr, h, h2, r, hr => by
    have ht := h2 t (by simp)
    rcases List.mem_cons.1 hr with rfl | hr
    · exact ⟨h, by rw [A.ba_sz]; exact ht⟩
    · exact mkR_fits ts (ba t) (by rw [A.ba_sz]; exact ht) (fun x hx => h2 x (by simp [hx])) r hr
theorem prow0_inv {l : List UInt8} {c : SRow} (h : prow0 l = some c) : S.rowBytes c = l ∧ c.ranges ≠ [] ∧ S.fitRow c ∧ c.ranges.length ≤ 1000000 ∧ c.owners.length ≤ 1000000 ∧ c.parents.length ≤ 1000000 := by
  unfold prow0 at h
  split at h
  · cases h
  · rename_i n r h1
    obtain ⟨n8, e1⟩ := (pnum_iff (by omega)).1 h1
    split at h
    · cases h
    · rename_i hn
      split at h
      · cases h
      · rename_i ts r2 h2
        obtain ⟨e2, l2, q2⟩ := ptexts_inv (by omega) h2
        split at h
        · cases h
        · rename_i os r3 h3
          obtain ⟨e3, l3, q3⟩ := pnums_inv (by omega) h3
          split at h
          · cases h
          · rename_i m r4 h4
            obtain ⟨m6, e4⟩ := (pnum_iff (by omega)).1 h4
            split at h
            · cases h
            · rename_i ps r5 h5
              obtain ⟨e5, l5, q5⟩ := pnums_inv (by omega) h5
              split at h
              · rename_i h6
                simp only [Option.some.injEq] at h
                subst h h6
                have hcuts : S.cuts (mkRow ts os ps) = cutF ⟨#[]⟩ ts := by
                  unfold S.cuts
                  rw [show (mkRow ts os ps).ranges = mkR ⟨#[]⟩ ts from rfl, mkR_eq]
                  rw [List.length_append, List.length_singleton, Nat.add_sub_cancel, List.take_left]
                have hrl : (mkRow ts os ps).ranges.length = n := by
                  show (mkR ⟨#[]⟩ ts).length = n
                  rw [mkR_len]; omega
                refine ⟨?_, mkR_ne _ _, fun r hr => ?_, by omega, by show (List.map _ _).length ≤ _; rw [List.length_map]; omega, by show (List.map _ _).length ≤ _; rw [List.length_map]; omega⟩
                · unfold S.rowBytes
                  rw [hcuts, cutF_texts, hrl]
                  show num n ++ _ ++ (os.map fun x => ((x : Nat) : Int)).flatMap _ ++ num (ps.map fun x => ((x : Nat) : Int) - 1).length ++ (ps.map fun x => ((x : Nat) : Int) - 1).flatMap _ = l
                  rw [List.flatMap_map, List.flatMap_map, List.length_map, e1, e2, e3, e4, e5, l5]
                  simp
                · have := mkR_fits ts ⟨#[]⟩ (by show 0 ≤ 32; omega) q2 r hr
                  exact ⟨by omega, by omega⟩
              · cases h
/-- A step's bytes, of its parts. -/
theorem one_parts {r r1 r2 r3 r4 r5 r6 k v w : List UInt8} {ns : List Nat} {m : Nat} {ks : List (List UInt8)} {c : SRow} (h1 : pmany (pnum 63) 6 r = some (ns, r1)) (h2 : ptext 32 r1 = some (k, r2)) (h3 : ptext 32 r2 = some (v, r3)) (h4 : pnum 8 r3 = some (m, r4)) (h5 : pmany (ptext 32) m r4 = some (ks, r5)) (h6 : ptext 1000 r5 = some (w, r6)) (hc : S.rowText c = w) : r = S.one (opOf ns k v ks c) ++ r6 := by
  obtain ⟨e1, l1, q1⟩ := pnums_inv (by omega) h1
  obtain ⟨_, e2⟩ := (ptext_iff (by omega)).1 h2
  obtain ⟨_, e3⟩ := (ptext_iff (by omega)).1 h3
  obtain ⟨_, e4⟩ := (pnum_iff (by omega)).1 h4
  obtain ⟨e5, l5, q5⟩ := ptexts_inv (by omega) h5
  obtain ⟨_, e6⟩ := (ptext_iff (by omega)).1 h6
  have hn : (S.numbers (opOf ns k v ks c)).flatMap (fun x => num x.toNat) = ns.flatMap num := by
    match ns, l1 with
    | [a, b, c, d, e, f], _ => simp [S.numbers, opOf]
  unfold S.one
  rw [hn]
  show r = ns.flatMap num ++ (text (ba k) ++ text (ba v) ++ num (ks.map ba).length) ++ (ks.map ba).flatMap text ++ text (ba (S.rowText c)) ++ r6
  rw [hc, List.flatMap_map, List.length_map, l5, e1, e2, e3, e4, e5, e6]
  simp
theorem pstep_parts {r r1 r2 r3 r4 r5 r6 k v w : List UInt8} {ns : List Nat} {m : Nat} {ks : List (List UInt8)} {c : SRow} (h1 : pmany (pnum 63) 6 r = some (ns, r1)) (h2 : ptext 32 r1 = some (k, r2)) (h3 : ptext 32 r2 = some (v, r3)) (h4 : pnum 8 r3 = some (m, r4)) (h5 : pmany (ptext 32) m r4 = some (ks, r5)) (h6 : ptext 1000 r5 = some (w, r6)) (hc : (w = [] ∧ c = ⟨[], [], []⟩) ∨ (w ≠ [] ∧ prow0 w = some c)) : pstep r = (if S.check (opOf ns k v ks c) then some (opOf ns k v ks c, r6) else none) ∧ (S.check (opOf ns k v ks c) = true → r = S.one (opOf ns k v ks c) ++ r6) := by
  have hrow : S.check (opOf ns k v ks c) = true → prow w = some c ∧ S.rowText c = w := fun h => by
    obtain ⟨_, _, _, _, _, hr⟩ := S.check_facts h
    rcases hc with ⟨hw, hc⟩ | ⟨hw, hc⟩
    · subst hw hc
      exact ⟨rfl, rfl⟩
    · obtain ⟨i1, i2, _⟩ := prow0_inv hc
      have hz : ¬ c.ranges.length = 0 := fun e => i2 (List.eq_nil_of_length_eq_zero e)
      obtain ⟨w1, w2⟩ := S.rowText_some hz hr
      refine ⟨?_, by rw [w2, i1]⟩
      unfold prow
      rw [if_neg hw, rrow_eq, data_ba, hc]
      simp only
      rw [if_pos w1]
  refine ⟨?_, fun h => one_parts h1 h2 h3 h4 h5 h6 (hrow h).2⟩
  unfold pstep
  simp only [h1, h2, h3, h4, h5, h6]
  cases hk : S.check (opOf ns k v ks c) with
  | true => rw [(hrow hk).1]; simp only [hk, if_true]
  | false =>
    cases hp : prow w with
    | none => rfl
    | some c' =>
      have : c' = c := by
        unfold prow at hp
        rcases hc with ⟨hw, hc⟩ | ⟨hw, hc⟩
        · rw [if_pos hw] at hp
          simp only [Option.some.injEq] at hp
          rw [hc, hp]
        · rw [if_neg hw, rrow_eq, data_ba, hc] at hp
          simp only at hp
          split at hp
          · simp only [Option.some.injEq] at hp; exact hp.symm
          · cases hp
      subst this
      simp only
      rw [hk]
theorem parts_len {r r1 r2 r3 r4 r5 r6 k v w : List UInt8} {ns : List Nat} {m : Nat} {ks : List (List UInt8)} (h1 : pmany (pnum 63) 6 r = some (ns, r1)) (h2 : ptext 32 r1 = some (k, r2)) (h3 : ptext 32 r2 = some (v, r3)) (h4 : pnum 8 r3 = some (m, r4)) (h5 : pmany (ptext 32) m r4 = some (ks, r5)) (h6 : ptext 1000 r5 = some (w, r6)) : r6.length ≤ r.length := by
  obtain ⟨e1, l1, q1⟩ := pnums_inv (by omega) h1
  obtain ⟨_, e2⟩ := (ptext_iff (by omega)).1 h2
  obtain ⟨_, e3⟩ := (ptext_iff (by omega)).1 h3
  obtain ⟨_, e4⟩ := (pnum_iff (by omega)).1 h4
  obtain ⟨e5, l5, q5⟩ := ptexts_inv (by omega) h5
  obtain ⟨_, e6⟩ := (ptext_iff (by omega)).1 h6
  rw [e1, e2, e3, e4, e5, e6]
  simp only [List.length_append]
  omega
def prowC (l : List UInt8) : SRow := match prowE l with
  | some (c, _) => c
  | none => ⟨[], [], []⟩
def prowB (l : List UInt8) : Bool := match prowE l with
  | some (_, b) => b
  | none => false
theorem prowA_eq (l : List UInt8) : prowA l = .tup [.row (prowC l).row, bv (prowB l)] := by
  unfold prowA prowC prowB
  cases prowE l with
  | none => rfl
  | some x => rfl
theorem prowB_no {l : List UInt8} (hl : l ≠ []) (h : prowB l = false) : prow l = none := by
  unfold prow
  rw [if_neg hl, rrow_eq, data_ba, prowE_eq]
  unfold prowB at h
  cases hp : prowE l with
  | none => rfl
  | some x =>
    obtain ⟨c, b⟩ := x
    rw [hp] at h
    simp only at h
    subst h
    rfl
theorem prowB_yes {l : List UInt8} (h : prowB l = true) : ∃ c, prow0 l = some c ∧ prowC l = c := by
  unfold prowB at h
  unfold prowC
  rw [prowE_eq]
  cases hp : prowE l with
  | none => rw [hp] at h; cases h
  | some x =>
    obtain ⟨c, b⟩ := x
    rw [hp] at h
    simp only at h
    subst h
    exact ⟨c, rfl, rfl⟩
theorem cut_eq {s : ByteArray} {r x t : List UInt8} (hr : r <:+ s.data.toList) (h : r = x ++ t) : s.extract (pos s r) (pos s t) = ba x := by
  have h1 := cut_ba s r x.length hr (by rw [h]; simp)
  have hl := suf_len hr
  have e : pos s t = s.size - r.length + x.length := by
    show s.size - t.length = _
    rw [h, List.length_append] at hl ⊢
    omega
  rw [e]
  show s.extract (s.size - r.length) _ = _
  rw [h1, h, List.take_left' rfl]
def zop : SOp := ⟨0, 0, 0, 0, 0, 0, ⟨#[]⟩, ⟨#[]⟩, [], ⟨[], [], []⟩⟩
def stO (r : List UInt8) : SOp := match pstep r with | some (o, _) => o | none => zop
def stE (s : ByteArray) (r : List UInt8) : Nat := match pstep r with | some (_, t) => pos s t | none => 0
theorem st_no {s : ByteArray} {r : List UInt8} (h : pstep r = none) : stO r = zop ∧ stE s r = 0 := by unfold stO stE; rw [h]; exact ⟨rfl, rfl⟩
theorem st_yes {s : ByteArray} {r t : List UInt8} {o : SOp} (h : pstep r = some (o, t)) : stO r = o ∧ stE s r = pos s t := by unfold stO stE; rw [h]; exact ⟨rfl, rfl⟩
/-- Six places, of which some numbers are read. -/
def six (ns : List Nat) : List SV := [.d (iv (ns.getD 0 0 : Nat)), .d (iv (ns.getD 1 0 : Nat)), .d (iv (ns.getD 2 0 : Nat)), .d (iv (ns.getD 3 0 : Nat)), .d (iv (ns.getD 4 0 : Nat)), .d (iv (ns.getD 5 0 : Nat))]
theorem six_set {ns : List Nat} {n j : Nat} (h : ns.length = j) (hj : j < 6) : (six ns).set (0 + j * 1) (.d (iv (n : Nat))) = six (ns ++ [n]) := by
  subst h
  rw [Nat.zero_add, Nat.mul_one]
  match ns, hj with
  | [], _ => rfl
  | [_], _ => rfl
  | [_, _], _ => rfl
  | [_, _, _], _ => rfl
  | [_, _, _, _], _ => rfl
  | [_, _, _, _, _], _ => rfl
end V
set_option maxRecDepth 100000 in
set_option maxHeartbeats 2000000 in
theorem rstep_a (s : ByteArray) (r : List UInt8) (hs : s.size ≤ 1000000) (hr : r <:+ s.data.toList) : ACall Try.prog 36 [tv s, iv (V.pos s r)] (.row ((V.stO r).row ++ [iv (V.stE s r)])) := by
  refine ACall_enterG (fun _ _ => by kernel_rfl) Try.func36 rfl Try.ntmps36 (Reads.cN Try.results36 Try.isAgg75 Try.sizeOf75) (Nat.le_of_ble_eq_true rfl) (fun hok M0 w0 hnl => ?_)
  have hps : ∀ r, V.pos s r ≤ s.size := fun r => Nat.sub_le _ _
  refine Aw_seq ?_
  refine Aw_region ?_
  refine Al_alloc rfl rfl rfl (by decide) Try.zeroValue75 rfl (by kernel_rfl) (fun g4 => ?_)
  refine Al_nil ?_
  refine Aw_seq ?_
  refine Aw_region ?_
  refine Al_alloc rfl rfl rfl (by decide) Try.zeroValue82 rfl (by kernel_rfl) (fun g5 => ?_)
  refine Al_nil ?_
  refine Aw_seq ?_
  refine Aw_region ?_
  refine Al_pu (Pu_move (.inl rfl) (by conv => lhs; whnf)) rfl rfl (by decide) (by kernel_rfl) ?_
  refine Al_pu (Pu_move (.inr rfl) (by conv => lhs; whnf)) rfl rfl (by decide) (by kernel_rfl) ?_
  refine Al_nil ?_
  refine Aw_seq ?_
  refine Aw_seq ?_
  refine Aw_region ?_
  refine Al_pu (Pu_move (.inr rfl) (by conv => lhs; whnf)) rfl rfl (by decide) (by kernel_rfl) ?_
  refine Al_nil ?_
  refine Aw_block ?_
  refine Aw_loopk (ι := Nat × (List Nat) × (List UInt8)) [0, 1, 4, 5] [4] (fun (j, ns, rj) => [(7, .d (iv j)), (6, .d (iv (V.pos s rj)))]) (fun (j, ns, rj) => [(5, g5, .box 82 (V.six ns))]) (fun (j, ns, rj) => j ≤ 6 ∧ rj <:+ s.data.toList ∧ ns.length = j ∧ V.pmany (V.pnum 63) j r = some (ns, rj)) (fun (j, ns, rj) => 6 - j) ((0, [], r)) (⟨Nat.zero_le _, ⟨hr, rfl, rfl⟩⟩) ⟨Sub.rfl, Sub.rfl, trivial⟩ ⟨rfl, trivial⟩ ?_
  rintro ⟨j, ns, rj⟩ ⟨hk0, ⟨hrj, hnm, hns⟩⟩
  refine Aw_seq ?_
  refine Aw_seq ?_
  refine Aw_region ?_
  refine Al_pu (Pu_move (.inl rfl) (by conv => lhs; whnf)) rfl rfl (by decide) (by kernel_rfl) ?_
  refine Al_pu (Pu_cmp rfl rfl rfl rfl) rfl rfl (by decide) (by kernel_rfl) ?_
  refine Al_nil ?_
  refine Aw_cond rfl (fun h21 => ?_) (fun h21 => ?_)
  · (try simp only [decide_eq_true_eq, decide_eq_false_iff_not, Bool.and_eq_true, Bool.or_eq_true, Bool.and_eq_false_iff, Bool.or_eq_false_iff, Bool.not_eq_true', Bool.not_eq_false', beq_iff_eq, Bool.not_eq_eq_eq_not, Bool.not_true, Bool.not_false, List.length_map, Bool.and_true, Bool.and_false, Bool.false_and, Bool.true_and, Bool.or_false, Bool.false_or] at h21)
    have hj6 : j < 6 := by have : (j : Int) < 6 := h21; omega
    refine Aw_skip ?_
    refine Aw_seq ?_
    refine Aw_block ?_
    refine Aw_seq ?_
    refine Aw_region ?_
    refine Al_pu (Pu_move (.inl rfl) (by conv => lhs; whnf)) rfl rfl (by decide) (by kernel_rfl) ?_
    refine Al_pu (Pu_move (.inl rfl) (by conv => lhs; whnf)) rfl rfl (by decide) (by kernel_rfl) ?_
    refine Al_pu (Pu_call (rread_a s (V.pos s rj) hs (hps _)) rfl ⟨Sub.rfl, Sub.rfl, trivial⟩) rfl rfl (by decide) (by kernel_rfl) ?_
    refine Al_alloc rfl rfl rfl (by decide) Try.zeroValue72 rfl (by kernel_rfl) (fun g8 => ?_)
    refine Al_storeN rfl rfl rfl (by kernel_rfl) Try.isAgg72 Try.sizeOf72 rfl rfl rfl rfl (Nat.le_of_ble_eq_true rfl) ?_
    refine Al_nil ?_
    refine Aw_seq ?_
    refine Aw_seq ?_
    refine Aw_region ?_
    refine Al_pu (Pu_fieldb 1 rfl Try.underlying72 rfl rfl Try.sizeOf3 rfl) rfl rfl (by decide) (by kernel_rfl) ?_
    refine Al_pu (Pu_loadb rfl Try.isAgg3 rfl rfl rfl) rfl rfl (by decide) (by kernel_rfl) ?_
    refine Al_pu (Pu_cmp rfl rfl rfl rfl) rfl rfl (by decide) (by kernel_rfl) ?_
    refine Al_pu (Pu_move (.inl rfl) (by conv => lhs; whnf)) rfl rfl (by decide) (by kernel_rfl) ?_
    refine Al_st (St_gd [] rfl rfl rfl rfl trivial (fun hg31 => Pu_fieldb 0 rfl Try.underlying72 rfl rfl Try.sizeOf63 rfl)) rfl (by decide) (by kernel_rfl) (by intro j b oj dj h1 h2 h3; cases h1; cases h2; cases h3; decide) ?_
    refine Al_st (St_gd [31] rfl rfl rfl rfl ⟨⟨_, rfl⟩, trivial⟩ (fun hg32 => Pu_loadb rfl Try.isAgg63 rfl rfl rfl)) rfl (by decide) (by kernel_rfl) (by intro j b oj dj h1 h2 h3; cases h1; cases h2; cases h3; decide) ?_
    refine Al_st (St_gd [32] rfl rfl rfl rfl ⟨⟨_, rfl⟩, trivial⟩ (fun hg33 => Pu_cmp rfl rfl rfl rfl)) rfl (by decide) (by kernel_rfl) (by intro j b oj dj h1 h2 h3; cases h1; cases h2; cases h3; decide) ?_
    refine Al_pu (Pu_or rfl rfl rfl rfl) rfl rfl (by decide) (by kernel_rfl) ?_
    refine Al_nil ?_
    refine Aw_cond rfl (fun h34 => ?_) (fun h34 => ?_)
    · skip
      have hno : V.pstep r = none := by
        have hx := V.rnum_no (most := 63) hrj h34
        have hxn := V.pmany_none (p := V.pnum 63) (k := j + 1) (m := 6) (r := r) (by rw [V.pmany_snoc, hns]; simp only [hx]) (by omega)
        unfold V.pstep; rw [hxn]
      refine Aw_seq ?_
      refine Aw_region ?_
      refine Al_pu (Pu_build (aa := []) rfl Try.underlying75 Try.zeroValue75 (places75 Try.underlying75) (by kernel_rfl) trivial rfl) rfl rfl (by decide) (by kernel_rfl) ?_
      refine Al_storeN rfl rfl rfl (by kernel_rfl) Try.isAgg75 Try.sizeOf75 rfl rfl rfl rfl (Nat.le_of_ble_eq_true rfl) ?_
      refine Al_nil ?_
      refine Aw_boxle (k := 4) ((V.zop.row ++ [iv 0]).map .d) rfl ⟨Sub.rfl, Sub.rfl, Sub.rfl, Sub.rfl, Sub.rfl, Sub.rfl, Sub.rfl, Sub.rfl, Sub.nil, Sub.nil, Sub.nil, Sub.nil, Sub.rfl, trivial⟩ ?_
      refine Aw_ret ?_
      exact ⟨_, _, _, _, _, [_, _, _, _, _, _, _, _, _, _, _, _, _], rfl, rfl, rfl, rfl, by rw [(V.st_no (s := s) hno).1, (V.st_no (s := s) hno).2]; rfl⟩ -- ret 0
    · skip
      obtain ⟨x, t, hx, k6, k7, ht, hx63⟩ := V.rnum_yes (most := 63) hrj h34
      rw [k6, k7]
      refine Aw_skip ?_
      refine Aw_seq ?_
      refine Aw_region ?_
      refine Al_pu (Pu_move (.inl rfl) (by conv => lhs; whnf)) rfl rfl (by decide) (by kernel_rfl) ?_
      refine Al_pu (Pu_fieldb 0 rfl Try.underlying72 rfl rfl Try.sizeOf63 rfl) rfl rfl (by decide) (by kernel_rfl) ?_
      refine Al_pu (Pu_loadb rfl Try.isAgg63 rfl rfl rfl) rfl rfl (by decide) (by kernel_rfl) ?_
      refine Al_pu (Pu_conv rfl Try.underlying63 Try.underlying3 rfl (fun hv => i64_nat (by simp only [A.inI]; omega))) rfl rfl (by decide) (by kernel_rfl) ?_
      refine Al_pu (Pu_indexArr rfl Try.underlying82 Try.sizeOf3 rfl rfl rfl hj6) rfl rfl (by decide) (by kernel_rfl) ?_
      refine Al_store1 rfl rfl rfl (by kernel_rfl) Try.isAgg3 Try.sizeOf3 rfl rfl (by show 0 + j * 1 < 6; omega) (by conv => lhs; whnf) rfl ?_
      refine Al_nil ?_
      refine Aw_region ?_
      refine Al_pu (Pu_fieldb 1 rfl Try.underlying72 rfl rfl Try.sizeOf3 rfl) rfl rfl (by decide) (by kernel_rfl) ?_
      refine Al_pu (Pu_loadb rfl Try.isAgg3 rfl rfl rfl) rfl rfl (by decide) (by kernel_rfl) ?_
      refine Al_pu (Pu_move (.inr rfl) (by conv => lhs; whnf)) rfl rfl (by decide) (by kernel_rfl) ?_
      refine Al_nil ?_
      refine Aw_region ?_
      refine Al_pu (Pu_move (.inl rfl) (by conv => lhs; whnf)) rfl rfl (by decide) (by kernel_rfl) ?_
      refine Al_pu (Pu_add rfl rfl rfl (fun h1 h2 => by simp only [A.inI, A.maxI] at *; omega)) rfl rfl (by decide) (by kernel_rfl) ?_
      refine Al_pu (Pu_move (.inr rfl) (by conv => lhs; whnf)) rfl rfl (by decide) (by kernel_rfl) ?_
      refine Al_nil ?_
      exact ⟨(j + 1, (ns ++ [x]), t), ⟨by omega, ⟨ht, by simp [hnm], by rw [V.pmany_snoc, hns]; simp only [hx]⟩⟩, by simp only []; omega, Le.ov ⟨Sub.num (by omega), Sub.rfl, trivial⟩ ⟨Sub.rfl, Sub.rfl, Sub.rfl, Sub.rfl, trivial⟩ ⟨bxeq (V.six_set hnm hj6), trivial⟩ ⟨rfl, trivial⟩⟩ -- loop 0 next.0
  · (try simp only [decide_eq_true_eq, decide_eq_false_iff_not, Bool.and_eq_true, Bool.or_eq_true, Bool.and_eq_false_iff, Bool.or_eq_false_iff, Bool.not_eq_true', Bool.not_eq_false', beq_iff_eq, Bool.not_eq_eq_eq_not, Bool.not_true, Bool.not_false, List.length_map, Bool.and_true, Bool.and_false, Bool.false_and, Bool.true_and, Bool.or_false, Bool.false_or] at h21)
    have hj6 : j = 6 := by have : ¬ (j : Int) < 6 := h21; omega
    rw [hj6] at hns hnm
    refine Aw_exit ?_
    refine Aw_seq ?_
    refine Aw_region ?_
    refine Al_pu (Pu_move (.inl rfl) (by conv => lhs; whnf)) rfl rfl (by decide) (by kernel_rfl) ?_
    refine Al_pu (Pu_move (.inl rfl) (by conv => lhs; whnf)) rfl rfl (by decide) (by kernel_rfl) ?_
    refine Al_pu (Pu_call (rreadtext_a s (V.pos s rj) 32 hs (hps _) (by omega)) rfl ⟨Sub.rfl, Sub.rfl, Sub.rfl, trivial⟩) rfl rfl (by decide) (by kernel_rfl) ?_
    refine Al_alloc rfl rfl rfl (by decide) Try.zeroValue92 rfl (by kernel_rfl) (fun g9 => ?_)
    refine Al_storeN rfl rfl rfl (by kernel_rfl) Try.isAgg92 Try.sizeOf92 rfl rfl rfl rfl (Nat.le_of_ble_eq_true rfl) ?_
    refine Al_nil ?_
    refine Aw_seq ?_
    refine Aw_seq ?_
    refine Aw_region ?_
    refine Al_pu (Pu_fieldb 1 rfl Try.underlying92 rfl rfl Try.sizeOf3 rfl) rfl rfl (by decide) (by kernel_rfl) ?_
    refine Al_pu (Pu_loadb rfl Try.isAgg3 rfl rfl rfl) rfl rfl (by decide) (by kernel_rfl) ?_
    refine Al_pu (Pu_cmp rfl rfl rfl rfl) rfl rfl (by decide) (by kernel_rfl) ?_
    refine Al_nil ?_
    refine Aw_cond rfl (fun h48 => ?_) (fun h48 => ?_)
    · (try simp only [decide_eq_true_eq, decide_eq_false_iff_not, Bool.and_eq_true, Bool.or_eq_true, Bool.and_eq_false_iff, Bool.or_eq_false_iff, Bool.not_eq_true', Bool.not_eq_false', beq_iff_eq, Bool.not_eq_eq_eq_not, Bool.not_true, Bool.not_false, List.length_map, Bool.and_true, Bool.and_false, Bool.false_and, Bool.true_and, Bool.or_false, Bool.false_or] at h48)
      have hno : V.pstep r = none := by
        have hx := V.rtxt_no (by omega) hrj h48
        unfold V.pstep; simp only [hns, hx]
      refine Aw_seq ?_
      refine Aw_region ?_
      refine Al_pu (Pu_build (aa := []) rfl Try.underlying75 Try.zeroValue75 (places75 Try.underlying75) (by kernel_rfl) trivial rfl) rfl rfl (by decide) (by kernel_rfl) ?_
      refine Al_storeN rfl rfl rfl (by kernel_rfl) Try.isAgg75 Try.sizeOf75 rfl rfl rfl rfl (Nat.le_of_ble_eq_true rfl) ?_
      refine Al_nil ?_
      refine Aw_boxle (k := 4) ((V.zop.row ++ [iv 0]).map .d) rfl ⟨Sub.rfl, Sub.rfl, Sub.rfl, Sub.rfl, Sub.rfl, Sub.rfl, Sub.rfl, Sub.rfl, Sub.nil, Sub.nil, Sub.nil, Sub.nil, Sub.rfl, trivial⟩ ?_
      refine Aw_ret ?_
      exact ⟨_, _, _, _, _, [_, _, _, _, _, _, _, _, _, _, _, _, _], rfl, rfl, rfl, rfl, by rw [(V.st_no (s := s) hno).1, (V.st_no (s := s) hno).2]; rfl⟩ -- ret 1
    · (try simp only [decide_eq_true_eq, decide_eq_false_iff_not, Bool.and_eq_true, Bool.or_eq_true, Bool.and_eq_false_iff, Bool.or_eq_false_iff, Bool.not_eq_true', Bool.not_eq_false', beq_iff_eq, Bool.not_eq_eq_eq_not, Bool.not_true, Bool.not_false, List.length_map, Bool.and_true, Bool.and_false, Bool.false_and, Bool.true_and, Bool.or_false, Bool.false_or] at h48)
      obtain ⟨k, r2, hk, k1, k2, hr2, hk32⟩ := V.rtxt_yes (by omega) hrj h48
      rw [k1, k2]
      refine Aw_skip ?_
      refine Aw_seq ?_
      refine Aw_region ?_
      refine Al_pu (Pu_move (.inl rfl) (by conv => lhs; whnf)) rfl rfl (by decide) (by kernel_rfl) ?_
      refine Al_pu (Pu_fieldb 1 rfl Try.underlying92 rfl rfl Try.sizeOf3 rfl) rfl rfl (by decide) (by kernel_rfl) ?_
      refine Al_pu (Pu_loadb rfl Try.isAgg3 rfl rfl rfl) rfl rfl (by decide) (by kernel_rfl) ?_
      refine Al_pu (Pu_call (rreadtext_a s (V.pos s r2) 32 hs (hps _) (by omega)) rfl ⟨Sub.rfl, Sub.rfl, Sub.rfl, trivial⟩) rfl rfl (by decide) (by kernel_rfl) ?_
      refine Al_alloc rfl rfl rfl (by decide) Try.zeroValue92 rfl (by kernel_rfl) (fun g10 => ?_)
      refine Al_storeN rfl rfl rfl (by kernel_rfl) Try.isAgg92 Try.sizeOf92 rfl rfl rfl rfl (Nat.le_of_ble_eq_true rfl) ?_
      refine Al_nil ?_
      refine Aw_seq ?_
      refine Aw_seq ?_
      refine Aw_region ?_
      refine Al_pu (Pu_fieldb 1 rfl Try.underlying92 rfl rfl Try.sizeOf3 rfl) rfl rfl (by decide) (by kernel_rfl) ?_
      refine Al_pu (Pu_loadb rfl Try.isAgg3 rfl rfl rfl) rfl rfl (by decide) (by kernel_rfl) ?_
      refine Al_pu (Pu_cmp rfl rfl rfl rfl) rfl rfl (by decide) (by kernel_rfl) ?_
      refine Al_nil ?_
      refine Aw_cond rfl (fun h56 => ?_) (fun h56 => ?_)
      · (try simp only [decide_eq_true_eq, decide_eq_false_iff_not, Bool.and_eq_true, Bool.or_eq_true, Bool.and_eq_false_iff, Bool.or_eq_false_iff, Bool.not_eq_true', Bool.not_eq_false', beq_iff_eq, Bool.not_eq_eq_eq_not, Bool.not_true, Bool.not_false, List.length_map, Bool.and_true, Bool.and_false, Bool.false_and, Bool.true_and, Bool.or_false, Bool.false_or] at h56)
        have hno : V.pstep r = none := by
          have hx := V.rtxt_no (by omega) hr2 h56
          unfold V.pstep; simp only [hns, hk, hx]
        refine Aw_seq ?_
        refine Aw_region ?_
        refine Al_pu (Pu_build (aa := []) rfl Try.underlying75 Try.zeroValue75 (places75 Try.underlying75) (by kernel_rfl) trivial rfl) rfl rfl (by decide) (by kernel_rfl) ?_
        refine Al_storeN rfl rfl rfl (by kernel_rfl) Try.isAgg75 Try.sizeOf75 rfl rfl rfl rfl (Nat.le_of_ble_eq_true rfl) ?_
        refine Al_nil ?_
        refine Aw_boxle (k := 4) ((V.zop.row ++ [iv 0]).map .d) rfl ⟨Sub.rfl, Sub.rfl, Sub.rfl, Sub.rfl, Sub.rfl, Sub.rfl, Sub.rfl, Sub.rfl, Sub.nil, Sub.nil, Sub.nil, Sub.nil, Sub.rfl, trivial⟩ ?_
        refine Aw_ret ?_
        exact ⟨_, _, _, _, _, [_, _, _, _, _, _, _, _, _, _, _, _, _], rfl, rfl, rfl, rfl, by rw [(V.st_no (s := s) hno).1, (V.st_no (s := s) hno).2]; rfl⟩ -- ret 2
      · (try simp only [decide_eq_true_eq, decide_eq_false_iff_not, Bool.and_eq_true, Bool.or_eq_true, Bool.and_eq_false_iff, Bool.or_eq_false_iff, Bool.not_eq_true', Bool.not_eq_false', beq_iff_eq, Bool.not_eq_eq_eq_not, Bool.not_true, Bool.not_false, List.length_map, Bool.and_true, Bool.and_false, Bool.false_and, Bool.true_and, Bool.or_false, Bool.false_or] at h56)
        obtain ⟨v, r3, hv, k3, k4, hr3, hv32⟩ := V.rtxt_yes (by omega) hr2 h56
        rw [k3, k4]
        refine Aw_skip ?_
        refine Aw_seq ?_
        refine Aw_region ?_
        refine Al_pu (Pu_indexArr (j := 0) rfl Try.underlying82 Try.sizeOf3 rfl rfl rfl (by decide)) rfl rfl (by decide) (by kernel_rfl) ?_
        refine Al_pu (Pu_loadb rfl Try.isAgg3 rfl rfl rfl) rfl rfl (by decide) (by kernel_rfl) ?_
        refine Al_pu (Pu_indexArr (j := 1) rfl Try.underlying82 Try.sizeOf3 rfl rfl rfl (by decide)) rfl rfl (by decide) (by kernel_rfl) ?_
        refine Al_pu (Pu_loadb rfl Try.isAgg3 rfl rfl rfl) rfl rfl (by decide) (by kernel_rfl) ?_
        refine Al_pu (Pu_indexArr (j := 2) rfl Try.underlying82 Try.sizeOf3 rfl rfl rfl (by decide)) rfl rfl (by decide) (by kernel_rfl) ?_
        refine Al_pu (Pu_loadb rfl Try.isAgg3 rfl rfl rfl) rfl rfl (by decide) (by kernel_rfl) ?_
        refine Al_pu (Pu_indexArr (j := 3) rfl Try.underlying82 Try.sizeOf3 rfl rfl rfl (by decide)) rfl rfl (by decide) (by kernel_rfl) ?_
        refine Al_pu (Pu_loadb rfl Try.isAgg3 rfl rfl rfl) rfl rfl (by decide) (by kernel_rfl) ?_
        refine Al_pu (Pu_indexArr (j := 4) rfl Try.underlying82 Try.sizeOf3 rfl rfl rfl (by decide)) rfl rfl (by decide) (by kernel_rfl) ?_
        refine Al_pu (Pu_loadb rfl Try.isAgg3 rfl rfl rfl) rfl rfl (by decide) (by kernel_rfl) ?_
        refine Al_pu (Pu_indexArr (j := 5) rfl Try.underlying82 Try.sizeOf3 rfl rfl rfl (by decide)) rfl rfl (by decide) (by kernel_rfl) ?_
        refine Al_pu (Pu_loadb rfl Try.isAgg3 rfl rfl rfl) rfl rfl (by decide) (by kernel_rfl) ?_
        refine Al_pu (Pu_fieldb 0 rfl Try.underlying92 rfl rfl Try.sizeOf9 rfl) rfl rfl (by decide) (by kernel_rfl) ?_
        refine Al_pu (Pu_loadb rfl Try.isAgg9 rfl rfl rfl) rfl rfl (by decide) (by kernel_rfl) ?_
        refine Al_pu (Pu_fieldb 0 rfl Try.underlying92 rfl rfl Try.sizeOf9 rfl) rfl rfl (by decide) (by kernel_rfl) ?_
        refine Al_pu (Pu_loadb rfl Try.isAgg9 rfl rfl rfl) rfl rfl (by decide) (by kernel_rfl) ?_
        refine Al_pu (Pu_build (r := [iv (ns.getD 0 0 : Nat), iv (ns.getD 1 0 : Nat), iv (ns.getD 2 0 : Nat), iv (ns.getD 3 0 : Nat), iv (ns.getD 4 0 : Nat), iv (ns.getD 5 0 : Nat), tv (V.ba k), tv (V.ba v), .v (.slice none 0 0), .v (.slice none 0 0), .v (.slice none 0 0), .v (.slice none 0 0)]) (aa := [(0, _), (1, _), (2, _), (3, _), (4, _), (5, _), (6, _), (7, _)]) rfl Try.underlying30 Try.zeroValue30 (places30 Try.underlying30) (by kernel_rfl) ⟨rfl, rfl, rfl, rfl, rfl, rfl, rfl, rfl, rfl, rfl, rfl, rfl, rfl, rfl, rfl, rfl, rfl, rfl, rfl, rfl, rfl, rfl, rfl, rfl, trivial⟩ (by kernel_rfl)) rfl rfl (by decide) (by kernel_rfl) ?_
        refine Al_alloc rfl rfl rfl (by decide) Try.zeroValue30 rfl (by kernel_rfl) (fun g11 => ?_)
        refine Al_storeN rfl rfl rfl (by kernel_rfl) Try.isAgg30 Try.sizeOf30 rfl rfl rfl rfl (Nat.le_of_ble_eq_true rfl) ?_
        refine Al_nil ?_
        refine Aw_seq ?_
        refine Aw_region ?_
        refine Al_pu (Pu_move (.inl rfl) (by conv => lhs; whnf)) rfl rfl (by decide) (by kernel_rfl) ?_
        refine Al_pu (Pu_fieldb 1 rfl Try.underlying92 rfl rfl Try.sizeOf3 rfl) rfl rfl (by decide) (by kernel_rfl) ?_
        refine Al_pu (Pu_loadb rfl Try.isAgg3 rfl rfl rfl) rfl rfl (by decide) (by kernel_rfl) ?_
        refine Al_pu (Pu_call (rread_a s (V.pos s r3) hs (hps _)) rfl ⟨Sub.rfl, Sub.rfl, trivial⟩) rfl rfl (by decide) (by kernel_rfl) ?_
        refine Al_alloc rfl rfl rfl (by decide) Try.zeroValue72 rfl (by kernel_rfl) (fun g12 => ?_)
        refine Al_storeN rfl rfl rfl (by kernel_rfl) Try.isAgg72 Try.sizeOf72 rfl rfl rfl rfl (Nat.le_of_ble_eq_true rfl) ?_
        refine Al_nil ?_
        refine Aw_seq ?_
        refine Aw_seq ?_
        refine Aw_region ?_
        refine Al_pu (Pu_fieldb 1 rfl Try.underlying72 rfl rfl Try.sizeOf3 rfl) rfl rfl (by decide) (by kernel_rfl) ?_
        refine Al_pu (Pu_loadb rfl Try.isAgg3 rfl rfl rfl) rfl rfl (by decide) (by kernel_rfl) ?_
        refine Al_pu (Pu_cmp rfl rfl rfl rfl) rfl rfl (by decide) (by kernel_rfl) ?_
        refine Al_pu (Pu_move (.inl rfl) (by conv => lhs; whnf)) rfl rfl (by decide) (by kernel_rfl) ?_
        refine Al_st (St_gd [] rfl rfl rfl rfl trivial (fun hg83 => Pu_fieldb 0 rfl Try.underlying72 rfl rfl Try.sizeOf63 rfl)) rfl (by decide) (by kernel_rfl) (by intro j b oj dj h1 h2 h3; cases h1; cases h2; cases h3; decide) ?_
        refine Al_st (St_gd [83] rfl rfl rfl rfl ⟨⟨_, rfl⟩, trivial⟩ (fun hg84 => Pu_loadb rfl Try.isAgg63 rfl rfl rfl)) rfl (by decide) (by kernel_rfl) (by intro j b oj dj h1 h2 h3; cases h1; cases h2; cases h3; decide) ?_
        refine Al_st (St_gd [84] rfl rfl rfl rfl ⟨⟨_, rfl⟩, trivial⟩ (fun hg85 => Pu_cmp rfl rfl rfl rfl)) rfl (by decide) (by kernel_rfl) (by intro j b oj dj h1 h2 h3; cases h1; cases h2; cases h3; decide) ?_
        refine Al_pu (Pu_or rfl rfl rfl rfl) rfl rfl (by decide) (by kernel_rfl) ?_
        refine Al_nil ?_
        refine Aw_cond rfl (fun h86 => ?_) (fun h86 => ?_)
        · skip
          have hno : V.pstep r = none := by
            have hx := V.rnum_no (most := 8) hr3 h86
            unfold V.pstep; simp only [hns, hk, hv, hx]
          refine Aw_seq ?_
          refine Aw_region ?_
          refine Al_pu (Pu_build (aa := []) rfl Try.underlying75 Try.zeroValue75 (places75 Try.underlying75) (by kernel_rfl) trivial rfl) rfl rfl (by decide) (by kernel_rfl) ?_
          refine Al_storeN rfl rfl rfl (by kernel_rfl) Try.isAgg75 Try.sizeOf75 rfl rfl rfl rfl (Nat.le_of_ble_eq_true rfl) ?_
          refine Al_nil ?_
          refine Aw_boxle (k := 4) ((V.zop.row ++ [iv 0]).map .d) rfl ⟨Sub.rfl, Sub.rfl, Sub.rfl, Sub.rfl, Sub.rfl, Sub.rfl, Sub.rfl, Sub.rfl, Sub.nil, Sub.nil, Sub.nil, Sub.nil, Sub.rfl, trivial⟩ ?_
          refine Aw_ret ?_
          exact ⟨_, _, _, _, _, [_, _, _, _, _, _, _, _, _, _, _, _, _], rfl, rfl, rfl, rfl, by rw [(V.st_no (s := s) hno).1, (V.st_no (s := s) hno).2]; rfl⟩ -- ret 3
        · skip
          obtain ⟨m, r4, hm, k5, k6, hr4, hm8⟩ := V.rnum_yes (most := 8) hr3 h86
          rw [k5, k6]
          refine Aw_skip ?_
          refine Aw_seq ?_
          refine Aw_region ?_
          refine Al_pu (Pu_fieldb 1 rfl Try.underlying72 rfl rfl Try.sizeOf3 rfl) rfl rfl (by decide) (by kernel_rfl) ?_
          refine Al_pu (Pu_loadb rfl Try.isAgg3 rfl rfl rfl) rfl rfl (by decide) (by kernel_rfl) ?_
          refine Al_pu (Pu_move (.inr rfl) (by conv => lhs; whnf)) rfl rfl (by decide) (by kernel_rfl) ?_
          refine Al_nil ?_
          refine Aw_seq ?_
          refine Aw_seq ?_
          refine Aw_region ?_
          refine Al_pu (Pu_move (.inr rfl) (by conv => lhs; whnf)) rfl rfl (by decide) (by kernel_rfl) ?_
          refine Al_nil ?_
          refine Aw_block ?_
          refine Aw_owncell 8 (k := 11) (k2 := 80) (e := 9) (n := 1) rfl rfl rfl (fun g80 => ?_)
          refine Aw_loopk (ι := Nat × (List (List UInt8)) × (List UInt8) × Nat) [0, 1, 4, 11, 12] [4, 12] (fun (i, ks, ri, g) => [(13, .d (uv i)), (6, .d (iv (V.pos s ri)))]) (fun (i, ks, ri, g) => [(11, g11, .box 30 (V.stCells ns (V.ba k) (V.ba v) (.ow 80 g) V.nil3)), (80, g, .arr 9 1 ((ks.map V.ba).map fun x => [tv x]))]) (fun (i, ks, ri, g) => i ≤ m ∧ ri <:+ s.data.toList ∧ ks.length = i ∧ V.pmany (V.ptext 32) i r4 = some (ks, ri)) (fun (i, ks, ri, g) => m - i) ((0, [], r4, g80)) (⟨Nat.zero_le _, ⟨hr4, rfl, rfl⟩⟩) ⟨Sub.rfl, Sub.rfl, trivial⟩ ⟨rfl, rfl, trivial⟩ ?_
          rintro ⟨i, ks, ri, g⟩ ⟨hk1, ⟨hri, hkl, hks⟩⟩
          refine Aw_seq ?_
          refine Aw_seq ?_
          refine Aw_region ?_
          refine Al_pu (Pu_move (.inl rfl) (by conv => lhs; whnf)) rfl rfl (by decide) (by kernel_rfl) ?_
          refine Al_pu (Pu_fieldb 0 rfl Try.underlying72 rfl rfl Try.sizeOf63 rfl) rfl rfl (by decide) (by kernel_rfl) ?_
          refine Al_pu (Pu_loadb rfl Try.isAgg63 rfl rfl rfl) rfl rfl (by decide) (by kernel_rfl) ?_
          refine Al_pu (Pu_cmp rfl rfl rfl rfl) rfl rfl (by decide) (by kernel_rfl) ?_
          refine Al_nil ?_
          refine Aw_cond rfl (fun h93 => ?_) (fun h93 => ?_)
          · (try simp only [decide_eq_true_eq, decide_eq_false_iff_not, Bool.and_eq_true, Bool.or_eq_true, Bool.and_eq_false_iff, Bool.or_eq_false_iff, Bool.not_eq_true', Bool.not_eq_false', beq_iff_eq, Bool.not_eq_eq_eq_not, Bool.not_true, Bool.not_false, List.length_map, Bool.and_true, Bool.and_false, Bool.false_and, Bool.true_and, Bool.or_false, Bool.false_or] at h93)
            refine Aw_skip ?_
            refine Aw_seq ?_
            refine Aw_block ?_
            refine Aw_seq ?_
            refine Aw_region ?_
            refine Al_pu (Pu_move (.inl rfl) (by conv => lhs; whnf)) rfl rfl (by decide) (by kernel_rfl) ?_
            refine Al_pu (Pu_move (.inl rfl) (by conv => lhs; whnf)) rfl rfl (by decide) (by kernel_rfl) ?_
            refine Al_pu (Pu_call (rreadtext_a s (V.pos s ri) 32 hs (hps _) (by omega)) rfl ⟨Sub.rfl, Sub.rfl, Sub.rfl, trivial⟩) rfl rfl (by decide) (by kernel_rfl) ?_
            refine Al_alloc rfl rfl rfl (by decide) Try.zeroValue92 rfl (by kernel_rfl) (fun g14 => ?_)
            refine Al_storeN rfl rfl rfl (by kernel_rfl) Try.isAgg92 Try.sizeOf92 rfl rfl rfl rfl (Nat.le_of_ble_eq_true rfl) ?_
            refine Al_nil ?_
            refine Aw_seq ?_
            refine Aw_seq ?_
            refine Aw_region ?_
            refine Al_pu (Pu_fieldb 1 rfl Try.underlying92 rfl rfl Try.sizeOf3 rfl) rfl rfl (by decide) (by kernel_rfl) ?_
            refine Al_pu (Pu_loadb rfl Try.isAgg3 rfl rfl rfl) rfl rfl (by decide) (by kernel_rfl) ?_
            refine Al_pu (Pu_cmp rfl rfl rfl rfl) rfl rfl (by decide) (by kernel_rfl) ?_
            refine Al_nil ?_
            refine Aw_cond rfl (fun h101 => ?_) (fun h101 => ?_)
            · (try simp only [decide_eq_true_eq, decide_eq_false_iff_not, Bool.and_eq_true, Bool.or_eq_true, Bool.and_eq_false_iff, Bool.or_eq_false_iff, Bool.not_eq_true', Bool.not_eq_false', beq_iff_eq, Bool.not_eq_eq_eq_not, Bool.not_true, Bool.not_false, List.length_map, Bool.and_true, Bool.and_false, Bool.false_and, Bool.true_and, Bool.or_false, Bool.false_or] at h101)
              have hno : V.pstep r = none := by
                have hx := V.rtxt_no (by omega) hri h101
                have hxn := V.pmany_none (p := V.ptext 32) (k := i + 1) (m := m) (r := r4) (by rw [V.pmany_snoc, hks]; simp only [hx]) (by omega)
                unfold V.pstep; simp only [hns, hk, hv, hm, hxn]
              refine Aw_seq ?_
              refine Aw_region ?_
              refine Al_pu (Pu_build (aa := []) rfl Try.underlying75 Try.zeroValue75 (places75 Try.underlying75) (by kernel_rfl) trivial rfl) rfl rfl (by decide) (by kernel_rfl) ?_
              refine Al_storeN rfl rfl rfl (by kernel_rfl) Try.isAgg75 Try.sizeOf75 rfl rfl rfl rfl (Nat.le_of_ble_eq_true rfl) ?_
              refine Al_nil ?_
              refine Aw_boxle (k := 4) ((V.zop.row ++ [iv 0]).map .d) rfl ⟨Sub.rfl, Sub.rfl, Sub.rfl, Sub.rfl, Sub.rfl, Sub.rfl, Sub.rfl, Sub.rfl, Sub.nil, Sub.nil, Sub.nil, Sub.nil, Sub.rfl, trivial⟩ ?_
              refine Aw_ret ?_
              exact ⟨_, _, _, _, _, [_, _, _, _, _, _, _, _, _, _, _, _, _], rfl, rfl, rfl, rfl, by rw [(V.st_no (s := s) hno).1, (V.st_no (s := s) hno).2]; rfl⟩ -- ret 4
            · (try simp only [decide_eq_true_eq, decide_eq_false_iff_not, Bool.and_eq_true, Bool.or_eq_true, Bool.and_eq_false_iff, Bool.or_eq_false_iff, Bool.not_eq_true', Bool.not_eq_false', beq_iff_eq, Bool.not_eq_eq_eq_not, Bool.not_true, Bool.not_false, List.length_map, Bool.and_true, Bool.and_false, Bool.false_and, Bool.true_and, Bool.or_false, Bool.false_or] at h101)
              obtain ⟨x, t, hx, k7, k8, ht, hx32⟩ := V.rtxt_yes (by omega) hri h101
              rw [k7, k8]
              refine Aw_skip ?_
              refine Aw_seq ?_
              refine Aw_region ?_
              refine Al_pu (Pu_fieldb 8 rfl Try.underlying30 rfl rfl Try.sizeOf24 rfl) rfl rfl (by decide) (by kernel_rfl) ?_
              refine Al_pu (Pu_loadb rfl Try.isAgg24 rfl rfl rfl) rfl rfl (by decide) (by kernel_rfl) ?_
              refine Al_pu (Pu_fieldb 0 rfl Try.underlying92 rfl rfl Try.sizeOf9 rfl) rfl rfl (by decide) (by kernel_rfl) ?_
              refine Al_pu (Pu_loadb rfl Try.isAgg9 rfl rfl rfl) rfl rfl (by decide) (by kernel_rfl) ?_
              refine Al_pu (Pu_slice1 rfl Try.underlying24 Try.sizeOf9 Try.zeroValue9 rfl (by decide) (by decide) (by kernel_rfl) rfl rfl rfl) rfl rfl (by decide) (by kernel_rfl) ?_
              refine Al_append rfl rfl rfl (by decide) (by kernel_rfl) elem24 (by decide) Try.sizeOf9 rfl rfl rfl (by simp; omega) (by decide) (fun g108 => ?_)
              refine Al_pu (Pu_fieldb 8 rfl Try.underlying30 rfl rfl Try.sizeOf24 rfl) rfl rfl (by decide) (by kernel_rfl) ?_
              refine Al_store1 rfl rfl rfl (by kernel_rfl) Try.isAgg24 Try.sizeOf24 rfl rfl (Nat.le_of_ble_eq_true rfl) (by conv => lhs; whnf) rfl ?_
              refine Al_nil ?_
              refine Aw_region ?_
              refine Al_pu (Pu_fieldb 1 rfl Try.underlying92 rfl rfl Try.sizeOf3 rfl) rfl rfl (by decide) (by kernel_rfl) ?_
              refine Al_pu (Pu_loadb rfl Try.isAgg3 rfl rfl rfl) rfl rfl (by decide) (by kernel_rfl) ?_
              refine Al_pu (Pu_move (.inr rfl) (by conv => lhs; whnf)) rfl rfl (by decide) (by kernel_rfl) ?_
              refine Al_nil ?_
              refine Aw_region ?_
              refine Al_pu (Pu_move (.inl rfl) (by conv => lhs; whnf)) rfl rfl (by decide) (by kernel_rfl) ?_
              refine Al_pu (Pu_int_add rfl rfl rfl (u64_nat (by omega) (by omega)).1 (fun _ => (u64_nat (by omega) (by omega)).2)) rfl rfl (by decide) (by kernel_rfl) ?_
              refine Al_pu (Pu_move (.inr rfl) (by conv => lhs; whnf)) rfl rfl (by decide) (by kernel_rfl) ?_
              refine Al_nil ?_
              exact ⟨(i + 1, (ks ++ [x]), t, g108), ⟨by omega, ⟨ht, by simp [hkl], by rw [V.pmany_snoc, hks]; simp only [hx]⟩⟩, by simp only []; omega, Le.ov ⟨Sub.num (by omega), Sub.rfl, trivial⟩ ⟨Sub.rfl, Sub.rfl, Sub.rfl, Sub.rfl, Sub.rfl, trivial⟩ ⟨rfl, obeq (by simp [A.cellsA]), trivial⟩ ⟨rfl, rfl, trivial⟩⟩ -- loop 1 next.0
          · (try simp only [decide_eq_true_eq, decide_eq_false_iff_not, Bool.and_eq_true, Bool.or_eq_true, Bool.and_eq_false_iff, Bool.or_eq_false_iff, Bool.not_eq_true', Bool.not_eq_false', beq_iff_eq, Bool.not_eq_eq_eq_not, Bool.not_true, Bool.not_false, List.length_map, Bool.and_true, Bool.and_false, Bool.false_and, Bool.true_and, Bool.or_false, Bool.false_or] at h93)
            have him : i = m := by omega
            rw [him] at hks hkl
            refine Aw_exit ?_
            refine Aw_seq ?_
            refine Aw_region ?_
            refine Al_pu (Pu_move (.inl rfl) (by conv => lhs; whnf)) rfl rfl (by decide) (by kernel_rfl) ?_
            refine Al_pu (Pu_move (.inl rfl) (by conv => lhs; whnf)) rfl rfl (by decide) (by kernel_rfl) ?_
            refine Al_pu (Pu_call (rreadtext_a s (V.pos s ri) 1000 hs (hps _) (by omega)) rfl ⟨Sub.rfl, Sub.rfl, Sub.rfl, trivial⟩) rfl rfl (by decide) (by kernel_rfl) ?_
            refine Al_alloc rfl rfl rfl (by decide) Try.zeroValue92 rfl (by kernel_rfl) (fun g15 => ?_)
            refine Al_storeN rfl rfl rfl (by kernel_rfl) Try.isAgg92 Try.sizeOf92 rfl rfl rfl rfl (Nat.le_of_ble_eq_true rfl) ?_
            refine Al_nil ?_
            refine Aw_seq ?_
            refine Aw_seq ?_
            refine Aw_region ?_
            refine Al_pu (Pu_fieldb 1 rfl Try.underlying92 rfl rfl Try.sizeOf3 rfl) rfl rfl (by decide) (by kernel_rfl) ?_
            refine Al_pu (Pu_loadb rfl Try.isAgg3 rfl rfl rfl) rfl rfl (by decide) (by kernel_rfl) ?_
            refine Al_pu (Pu_cmp rfl rfl rfl rfl) rfl rfl (by decide) (by kernel_rfl) ?_
            refine Al_nil ?_
            refine Aw_cond rfl (fun h117 => ?_) (fun h117 => ?_)
            · (try simp only [decide_eq_true_eq, decide_eq_false_iff_not, Bool.and_eq_true, Bool.or_eq_true, Bool.and_eq_false_iff, Bool.or_eq_false_iff, Bool.not_eq_true', Bool.not_eq_false', beq_iff_eq, Bool.not_eq_eq_eq_not, Bool.not_true, Bool.not_false, List.length_map, Bool.and_true, Bool.and_false, Bool.false_and, Bool.true_and, Bool.or_false, Bool.false_or] at h117)
              have hno : V.pstep r = none := by
                have hx := V.rtxt_no (by omega) hri h117
                unfold V.pstep; simp only [hns, hk, hv, hm, hks, hx]
              refine Aw_seq ?_
              refine Aw_region ?_
              refine Al_pu (Pu_build (aa := []) rfl Try.underlying75 Try.zeroValue75 (places75 Try.underlying75) (by kernel_rfl) trivial rfl) rfl rfl (by decide) (by kernel_rfl) ?_
              refine Al_storeN rfl rfl rfl (by kernel_rfl) Try.isAgg75 Try.sizeOf75 rfl rfl rfl rfl (Nat.le_of_ble_eq_true rfl) ?_
              refine Al_nil ?_
              refine Aw_boxle (k := 4) ((V.zop.row ++ [iv 0]).map .d) rfl ⟨Sub.rfl, Sub.rfl, Sub.rfl, Sub.rfl, Sub.rfl, Sub.rfl, Sub.rfl, Sub.rfl, Sub.nil, Sub.nil, Sub.nil, Sub.nil, Sub.rfl, trivial⟩ ?_
              refine Aw_ret ?_
              exact ⟨_, _, _, _, _, [_, _, _, _, _, _, _, _, _, _, _, _, _], rfl, rfl, rfl, rfl, by rw [(V.st_no (s := s) hno).1, (V.st_no (s := s) hno).2]; rfl⟩ -- ret 5
            · (try simp only [decide_eq_true_eq, decide_eq_false_iff_not, Bool.and_eq_true, Bool.or_eq_true, Bool.and_eq_false_iff, Bool.or_eq_false_iff, Bool.not_eq_true', Bool.not_eq_false', beq_iff_eq, Bool.not_eq_eq_eq_not, Bool.not_true, Bool.not_false, List.length_map, Bool.and_true, Bool.and_false, Bool.false_and, Bool.true_and, Bool.or_false, Bool.false_or] at h117)
              obtain ⟨w, r6, hw, k7, k8, hr6, hw1000⟩ := V.rtxt_yes (by omega) hri h117
              rw [k7, k8]
              have hle := V.parts_len hns hk hv hm hks hw
              have hle2 : V.pos s r ≤ V.pos s r6 := by show s.size - r.length ≤ s.size - r6.length; omega
              refine Aw_skip ?_
              -- join 0: live [0, 1, 4, 11, 15], turned []
              refine Aw_seq ?_
              refine Aw_seq ?_
              refine Aw_region ?_
              refine Al_pu (Pu_fieldb 0 rfl Try.underlying92 rfl rfl Try.sizeOf9 rfl) rfl rfl (by decide) (by kernel_rfl) ?_
              refine Al_pu (Pu_loadb rfl Try.isAgg9 rfl rfl rfl) rfl rfl (by decide) (by kernel_rfl) ?_
              refine Al_pu (Pu_str rfl rfl rfl rfl) rfl rfl (by decide) (by kernel_rfl) ?_
              refine Al_nil ?_
              refine Aw_cond rfl (fun h121 => ?_) (fun h121 => ?_)
              · skip
                have hwn : w ≠ [] := fun e => by subst e; revert h121; rw [V.nil_text]; decide
                have hrr := rreadrow_a (V.ba w) (by rw [A.ba_sz]; omega)
                rw [V.data_ba, V.prowA_eq] at hrr
                refine Aw_seq ?_
                refine Aw_region ?_
                refine Al_pu (Pu_fieldb 0 rfl Try.underlying92 rfl rfl Try.sizeOf9 rfl) rfl rfl (by decide) (by kernel_rfl) ?_
                refine Al_pu (Pu_loadb rfl Try.isAgg9 rfl rfl rfl) rfl rfl (by decide) (by kernel_rfl) ?_
                refine Al_pu (Pu_call (hrr) rfl ⟨Sub.rfl, trivial⟩) rfl rfl (by decide) (by kernel_rfl) ?_
                refine Al_pu (Pu_move (.inl rfl) (by conv => lhs; whnf)) rfl rfl (by decide) (by kernel_rfl) ?_
                refine Al_pu (Pu_extract rfl rfl rfl) rfl rfl (by decide) (by kernel_rfl) ?_
                refine Al_pu (Pu_extract rfl rfl rfl) rfl rfl (by decide) (by kernel_rfl) ?_
                refine Al_alloc rfl rfl rfl (by decide) Try.zeroValue28 rfl (by kernel_rfl) (fun g16 => ?_)
                refine Al_storeN rfl rfl rfl (by kernel_rfl) Try.isAgg28 Try.sizeOf28 rfl rfl rfl rfl (Nat.le_of_ble_eq_true rfl) ?_
                refine Al_pu (Pu_move (.inr rfl) (by conv => lhs; whnf)) rfl rfl (by decide) (by kernel_rfl) ?_
                refine Al_nil ?_
                refine Aw_seq ?_
                refine Aw_seq ?_
                refine Aw_region ?_
                refine Al_pu (Pu_move (.inl rfl) (by conv => lhs; whnf)) rfl rfl (by decide) (by kernel_rfl) ?_
                refine Al_pu (Pu_not rfl rfl) rfl rfl (by decide) (by kernel_rfl) ?_
                refine Al_nil ?_
                refine Aw_cond rfl (fun h129 => ?_) (fun h129 => ?_)
                · skip
                  have hno : V.pstep r = none := by
                    have hx := V.prowB_no hwn (by simpa using h129)
                    unfold V.pstep; simp only [hns, hk, hv, hm, hks, hw, hx]
                  refine Aw_seq ?_
                  refine Aw_region ?_
                  refine Al_pu (Pu_build (aa := []) rfl Try.underlying75 Try.zeroValue75 (places75 Try.underlying75) (by kernel_rfl) trivial rfl) rfl rfl (by decide) (by kernel_rfl) ?_
                  refine Al_storeN rfl rfl rfl (by kernel_rfl) Try.isAgg75 Try.sizeOf75 rfl rfl rfl rfl (Nat.le_of_ble_eq_true rfl) ?_
                  refine Al_nil ?_
                  refine Aw_boxle (k := 4) ((V.zop.row ++ [iv 0]).map .d) rfl ⟨Sub.rfl, Sub.rfl, Sub.rfl, Sub.rfl, Sub.rfl, Sub.rfl, Sub.rfl, Sub.rfl, Sub.nil, Sub.nil, Sub.nil, Sub.nil, Sub.rfl, trivial⟩ ?_
                  refine Aw_ret ?_
                  exact ⟨_, _, _, _, _, [_, _, _, _, _, _, _, _, _, _, _, _, _], rfl, rfl, rfl, rfl, by rw [(V.st_no (s := s) hno).1, (V.st_no (s := s) hno).2]; rfl⟩ -- ret 6
                · skip
                  obtain ⟨c, hc0, hcr⟩ := V.prowB_yes (by simpa using h129)
                  have hfit := (V.prow0_inv hc0).2.2
                  obtain ⟨hp1, hp2⟩ := V.pstep_parts hns hk hv hm hks hw (.inr ⟨hwn, hc0⟩)
                  rw [hcr]
                  refine Aw_skip ?_
                  refine Aw_region ?_
                  refine Al_pu (Pu_loadbN (r := [_, _, _]) rfl Try.isAgg28 Try.sizeOf28 rfl rfl rfl rfl) rfl rfl (by decide) (by kernel_rfl) ?_
                  refine Al_pu (Pu_fieldb 9 rfl Try.underlying30 rfl rfl Try.sizeOf28 rfl) rfl rfl (by decide) (by kernel_rfl) ?_
                  refine Al_storeN rfl rfl rfl (by kernel_rfl) Try.isAgg28 Try.sizeOf28 rfl rfl rfl rfl (Nat.le_of_ble_eq_true rfl) ?_
                  refine Al_nil ?_
                  refine Aw_seq ?_
                  have q139 : (!S.check (V.opOf ns k v ks c)) = false → S.check (V.opOf ns k v ks c) = true := by simp
                  refine Aw_frzc 8 (k := 80) (kb := 11) hnl [] rfl rfl rfl rfl trivial ?_
                  refine Aw_region ?_
                  refine Al_pu (Pu_loadbN (r := [_, _, _, _, _, _, _, _, _, _, _, _]) rfl Try.isAgg30 Try.sizeOf30 rfl rfl rfl rfl) rfl rfl (by decide) (by kernel_rfl) ?_
                  refine Al_pu (Pu_call (srcheck_a (V.opOf ns k v ks c) hfit) rfl ⟨Sub.rfl, trivial⟩) rfl rfl (by decide) (by kernel_rfl) ?_
                  refine Al_pu (Pu_move (.inr rfl) (by conv => lhs; whnf)) rfl rfl (by decide) (by kernel_rfl) ?_
                  refine Al_nil ?_
                  refine Aw_seq ?_
                  refine Aw_seq ?_
                  refine Aw_draw 12 (by kernel_rfl) (by kernel_rfl) ?_
                  refine Dr_pu (Pu_move (.inl rfl) (by conv => lhs; whnf)) rfl rfl ?_
                  refine Dr_pu (Pu_not rfl rfl) rfl rfl ?_
                  refine Dr_pu (Pu_move (.inl rfl) (by conv => lhs; whnf)) rfl rfl ?_
                  refine Dr_st (St_gd [] rfl rfl rfl rfl trivial (fun hg138 => Pu_loadbN (r := [_, _, _, _, _, _, _, _, _, _, _, _]) rfl Try.isAgg30 Try.sizeOf30 rfl rfl rfl rfl)) rfl ?_
                  refine Dr_st (St_gd [138] rfl rfl rfl rfl ⟨⟨_, rfl⟩, trivial⟩ (fun hg139 => Pu_call (rone_a (V.opOf ns k v ks c) (q139 hg139) hfit) rfl ⟨Sub.rfl, trivial⟩)) rfl ?_
                  refine Dr_st (St_gd [] rfl rfl rfl rfl trivial (fun hg140 => by exact Pu_move (.inl rfl) (by conv => lhs; whnf))) rfl ?_
                  refine Dr_st (St_gd [] rfl rfl rfl rfl trivial (fun hg141 => by exact Pu_move (.inl rfl) (by conv => lhs; whnf))) rfl ?_
                  refine Dr_st (St_gd [] rfl rfl rfl rfl trivial (fun hg142 => Pu_fieldb 1 rfl Try.underlying92 rfl rfl Try.sizeOf3 rfl)) rfl ?_
                  refine Dr_st (St_gd [142] rfl rfl rfl rfl ⟨⟨_, rfl⟩, trivial⟩ (fun hg143 => Pu_loadb rfl Try.isAgg3 rfl rfl rfl)) rfl ?_
                  refine Dr_st (St_gd [140, 141, 143] rfl rfl rfl rfl ⟨⟨_, rfl⟩, ⟨_, rfl⟩, ⟨_, rfl⟩, trivial⟩ (fun hg144 => by exact Pu_subS ((V.pos s r)) ((V.pos s r6)) rfl Try.underlying9 rfl ⟨_, rfl, by omega⟩ ⟨_, rfl, by omega⟩ ⟨(by first | exact hle2 | exact hps r6), (by first | exact hle2 | exact hps r6)⟩)) rfl ?_
                  refine Dr_st (St_gd [139, 144] rfl rfl rfl rfl ⟨⟨_, rfl⟩, ⟨_, rfl⟩, trivial⟩ (fun hg145 => Pu_str rfl rfl rfl rfl)) rfl ?_
                  refine Dr_pu (Pu_or rfl rfl rfl rfl) rfl rfl ?_
                  refine Dr_nil ?_
                  refine Al_nil ?_
                  refine Aw_cond rfl (fun h146 => ?_) (fun h146 => ?_)
                  · skip
                    have hno : V.pstep r = none := by
                      rw [hp1]
                      cases hchk : S.check (V.opOf ns k v ks c) with
                      | false => rfl
                      | true =>
                        exfalso
                        rw [hchk, V.cut_eq hr (hp2 hchk)] at h146
                        simp at h146
                    refine Aw_seq ?_
                    refine Aw_region ?_
                    refine Al_pu (Pu_build (aa := []) rfl Try.underlying75 Try.zeroValue75 (places75 Try.underlying75) (by kernel_rfl) trivial rfl) rfl rfl (by decide) (by kernel_rfl) ?_
                    refine Al_storeN rfl rfl rfl (by kernel_rfl) Try.isAgg75 Try.sizeOf75 rfl rfl rfl rfl (Nat.le_of_ble_eq_true rfl) ?_
                    refine Al_nil ?_
                    refine Aw_boxle (k := 4) ((V.zop.row ++ [iv 0]).map .d) rfl ⟨Sub.rfl, Sub.rfl, Sub.rfl, Sub.rfl, Sub.rfl, Sub.rfl, Sub.rfl, Sub.rfl, Sub.nil, Sub.nil, Sub.nil, Sub.nil, Sub.rfl, trivial⟩ ?_
                    refine Aw_ret ?_
                    exact ⟨_, _, _, _, _, [_, _, _, _, _, _, _, _, _, _, _, _, _], rfl, rfl, rfl, rfl, by rw [(V.st_no (s := s) hno).1, (V.st_no (s := s) hno).2]; rfl⟩ -- ret 7
                  · skip
                    have hyes : V.pstep r = some (V.opOf ns k v ks c, r6) := by
                      rw [hp1, if_pos]
                      simp only [Bool.or_eq_false_iff, Bool.not_eq_false'] at h146
                      exact h146.1
                    refine Aw_skip ?_
                    refine Aw_seq ?_
                    refine Aw_region ?_
                    refine Al_pu (Pu_loadbN (r := [_, _, _, _, _, _, _, _, _, _, _, _]) rfl Try.isAgg30 Try.sizeOf30 rfl rfl rfl rfl) rfl rfl (by decide) (by kernel_rfl) ?_
                    refine Al_pu (Pu_fieldb 1 rfl Try.underlying92 rfl rfl Try.sizeOf3 rfl) rfl rfl (by decide) (by kernel_rfl) ?_
                    refine Al_pu (Pu_loadb rfl Try.isAgg3 rfl rfl rfl) rfl rfl (by decide) (by kernel_rfl) ?_
                    refine Al_pu (Pu_build (aa := [(0, _), (1, _)]) rfl Try.underlying75 Try.zeroValue75 (places75 Try.underlying75) (by kernel_rfl) ⟨rfl, rfl, rfl, rfl, rfl, rfl, trivial⟩ rfl) rfl rfl (by decide) (by kernel_rfl) ?_
                    refine Al_storeN rfl rfl rfl (by kernel_rfl) Try.isAgg75 Try.sizeOf75 rfl rfl rfl rfl (Nat.le_of_ble_eq_true rfl) ?_
                    refine Al_nil ?_
                    refine Aw_ret ?_
                    exact ⟨_, _, _, _, _, [_, _, _, _, _, _, _, _, _, _, _, _, _], rfl, rfl, rfl, rfl, by rw [(V.st_yes (s := s) hyes).1, (V.st_yes (s := s) hyes).2]; rfl⟩ -- ret 8
              · skip
                have hwn : w = [] := by
                  rw [V.nil_text] at h121
                  have : (V.ba w).size = 0 := by simpa using h121
                  rw [A.ba_sz] at this
                  exact List.eq_nil_of_length_eq_zero this
                obtain ⟨c, hc⟩ : ∃ c : SRow, c = ⟨[], [], []⟩ := ⟨_, rfl⟩
                have hfit : S.fitRow c ∧ c.ranges.length ≤ 1000000 ∧ c.owners.length ≤ 1000000 ∧ c.parents.length ≤ 1000000 := by subst hc; exact ⟨(fun r hr => by cases hr), Nat.zero_le _, Nat.zero_le _, Nat.zero_le _⟩
                obtain ⟨hp1, hp2⟩ := V.pstep_parts hns hk hv hm hks hw (.inl ⟨hwn, hc⟩)
                refine Aw_boxle (k := 11) (V.stCells ns (V.ba k) (V.ba v) (.ow 80 g) (c.row.map .d)) rfl (by subst hc; exact ⟨Sub.rfl, Sub.rfl, Sub.rfl, Sub.rfl, Sub.rfl, Sub.rfl, Sub.rfl, Sub.rfl, Sub.rfl, Sub.nil, Sub.nil, Sub.nil, trivial⟩) ?_
                refine Aw_skip ?_
                refine Aw_seq ?_
                have q139 : (!S.check (V.opOf ns k v ks c)) = false → S.check (V.opOf ns k v ks c) = true := by simp
                refine Aw_frzc 8 (k := 80) (kb := 11) hnl [] rfl rfl rfl rfl trivial ?_
                refine Aw_region ?_
                refine Al_pu (Pu_loadbN (r := [_, _, _, _, _, _, _, _, _, _, _, _]) rfl Try.isAgg30 Try.sizeOf30 rfl rfl rfl rfl) rfl rfl (by decide) (by kernel_rfl) ?_
                refine Al_pu (Pu_call (srcheck_a (V.opOf ns k v ks c) hfit) rfl ⟨Sub.rfl, trivial⟩) rfl rfl (by decide) (by kernel_rfl) ?_
                refine Al_pu (Pu_move (.inr rfl) (by conv => lhs; whnf)) rfl rfl (by decide) (by kernel_rfl) ?_
                refine Al_nil ?_
                refine Aw_seq ?_
                refine Aw_seq ?_
                refine Aw_draw 12 (by kernel_rfl) (by kernel_rfl) ?_
                refine Dr_pu (Pu_move (.inl rfl) (by conv => lhs; whnf)) rfl rfl ?_
                refine Dr_pu (Pu_not rfl rfl) rfl rfl ?_
                refine Dr_pu (Pu_move (.inl rfl) (by conv => lhs; whnf)) rfl rfl ?_
                refine Dr_st (St_gd [] rfl rfl rfl rfl trivial (fun hg138 => Pu_loadbN (r := [_, _, _, _, _, _, _, _, _, _, _, _]) rfl Try.isAgg30 Try.sizeOf30 rfl rfl rfl rfl)) rfl ?_
                refine Dr_st (St_gd [138] rfl rfl rfl rfl ⟨⟨_, rfl⟩, trivial⟩ (fun hg139 => Pu_call (rone_a (V.opOf ns k v ks c) (q139 hg139) hfit) rfl ⟨Sub.rfl, trivial⟩)) rfl ?_
                refine Dr_st (St_gd [] rfl rfl rfl rfl trivial (fun hg140 => by exact Pu_move (.inl rfl) (by conv => lhs; whnf))) rfl ?_
                refine Dr_st (St_gd [] rfl rfl rfl rfl trivial (fun hg141 => by exact Pu_move (.inl rfl) (by conv => lhs; whnf))) rfl ?_
                refine Dr_st (St_gd [] rfl rfl rfl rfl trivial (fun hg142 => Pu_fieldb 1 rfl Try.underlying92 rfl rfl Try.sizeOf3 rfl)) rfl ?_
                refine Dr_st (St_gd [142] rfl rfl rfl rfl ⟨⟨_, rfl⟩, trivial⟩ (fun hg143 => Pu_loadb rfl Try.isAgg3 rfl rfl rfl)) rfl ?_
                refine Dr_st (St_gd [140, 141, 143] rfl rfl rfl rfl ⟨⟨_, rfl⟩, ⟨_, rfl⟩, ⟨_, rfl⟩, trivial⟩ (fun hg144 => by exact Pu_subS ((V.pos s r)) ((V.pos s r6)) rfl Try.underlying9 rfl ⟨_, rfl, by omega⟩ ⟨_, rfl, by omega⟩ ⟨(by first | exact hle2 | exact hps r6), (by first | exact hle2 | exact hps r6)⟩)) rfl ?_
                refine Dr_st (St_gd [139, 144] rfl rfl rfl rfl ⟨⟨_, rfl⟩, ⟨_, rfl⟩, trivial⟩ (fun hg145 => Pu_str rfl rfl rfl rfl)) rfl ?_
                refine Dr_pu (Pu_or rfl rfl rfl rfl) rfl rfl ?_
                refine Dr_nil ?_
                refine Al_nil ?_
                refine Aw_cond rfl (fun h146 => ?_) (fun h146 => ?_)
                · skip
                  have hno : V.pstep r = none := by
                    rw [hp1]
                    cases hchk : S.check (V.opOf ns k v ks c) with
                    | false => rfl
                    | true =>
                      exfalso
                      rw [hchk, V.cut_eq hr (hp2 hchk)] at h146
                      simp at h146
                  refine Aw_seq ?_
                  refine Aw_region ?_
                  refine Al_pu (Pu_build (aa := []) rfl Try.underlying75 Try.zeroValue75 (places75 Try.underlying75) (by kernel_rfl) trivial rfl) rfl rfl (by decide) (by kernel_rfl) ?_
                  refine Al_storeN rfl rfl rfl (by kernel_rfl) Try.isAgg75 Try.sizeOf75 rfl rfl rfl rfl (Nat.le_of_ble_eq_true rfl) ?_
                  refine Al_nil ?_
                  refine Aw_boxle (k := 4) ((V.zop.row ++ [iv 0]).map .d) rfl ⟨Sub.rfl, Sub.rfl, Sub.rfl, Sub.rfl, Sub.rfl, Sub.rfl, Sub.rfl, Sub.rfl, Sub.nil, Sub.nil, Sub.nil, Sub.nil, Sub.rfl, trivial⟩ ?_
                  refine Aw_ret ?_
                  exact ⟨_, _, _, _, _, [_, _, _, _, _, _, _, _, _, _, _, _, _], rfl, rfl, rfl, rfl, by rw [(V.st_no (s := s) hno).1, (V.st_no (s := s) hno).2]; rfl⟩ -- ret 9
                · skip
                  have hyes : V.pstep r = some (V.opOf ns k v ks c, r6) := by
                    rw [hp1, if_pos]
                    simp only [Bool.or_eq_false_iff, Bool.not_eq_false'] at h146
                    exact h146.1
                  refine Aw_skip ?_
                  refine Aw_seq ?_
                  refine Aw_region ?_
                  refine Al_pu (Pu_loadbN (r := [_, _, _, _, _, _, _, _, _, _, _, _]) rfl Try.isAgg30 Try.sizeOf30 rfl rfl rfl rfl) rfl rfl (by decide) (by kernel_rfl) ?_
                  refine Al_pu (Pu_fieldb 1 rfl Try.underlying92 rfl rfl Try.sizeOf3 rfl) rfl rfl (by decide) (by kernel_rfl) ?_
                  refine Al_pu (Pu_loadb rfl Try.isAgg3 rfl rfl rfl) rfl rfl (by decide) (by kernel_rfl) ?_
                  refine Al_pu (Pu_build (aa := [(0, _), (1, _)]) rfl Try.underlying75 Try.zeroValue75 (places75 Try.underlying75) (by kernel_rfl) ⟨rfl, rfl, rfl, rfl, rfl, rfl, trivial⟩ rfl) rfl rfl (by decide) (by kernel_rfl) ?_
                  refine Al_storeN rfl rfl rfl (by kernel_rfl) Try.isAgg75 Try.sizeOf75 rfl rfl rfl rfl (Nat.le_of_ble_eq_true rfl) ?_
                  refine Al_nil ?_
                  refine Aw_ret ?_
                  exact ⟨_, _, _, _, _, [_, _, _, _, _, _, _, _, _, _, _, _, _], rfl, rfl, rfl, rfl, by rw [(V.st_yes (s := s) hyes).1, (V.st_yes (s := s) hyes).2]; rfl⟩ -- ret 10
end Go.Proofs.Ytocgnmklgklfnaa

set_option linter.unusedSimpArgs false
set_option linter.unusedVariables false
namespace Go.Proofs.Ytocgnmklgklfnaa
open Go.RowKit A R
namespace V
theorem one_pos {o : SOp} : 0 < (S.one o).length := by
  have := num_pos o.keys.length
  unfold S.one
  simp only [List.length_append]
  omega
/-- Whether a step stands somewhere. -/
theorem pstep_inv {r t : List UInt8} {o : SOp} (h : pstep r = some (o, t)) : r = S.one o ++ t ∧ S.check o = true ∧ S.fits o := by
  unfold pstep at h
  split at h
  · cases h
  · rename_i ns r1 h1
    split at h
    · cases h
    · rename_i k r2 h2
      split at h
      · cases h
      · rename_i v r3 h3
        split at h
        · cases h
        · rename_i m r4 h4
          split at h
          · cases h
          · rename_i ks r5 h5
            split at h
            · cases h
            · rename_i w r6 h6
              split at h
              · cases h
              · rename_i c hc
                split at h
                · rename_i hk
                  simp only [Option.some.injEq, Prod.mk.injEq] at h
                  obtain ⟨rfl, rfl⟩ := h
                  by_cases hw : w = []
                  · have hc' : c = ⟨[], [], []⟩ := by
                      unfold prow at hc
                      rw [if_pos hw] at hc
                      simp only [Option.some.injEq] at hc
                      exact hc.symm
                    refine ⟨(pstep_parts h1 h2 h3 h4 h5 h6 (.inl ⟨hw, hc'⟩)).2 hk, hk, ?_⟩
                    subst hc'
                    exact ⟨(fun r hr => by cases hr), Nat.zero_le _, Nat.zero_le _, Nat.zero_le _⟩
                  · have hc' : prow0 w = some c := by
                      unfold prow at hc
                      rw [if_neg hw, rrow_eq, data_ba] at hc
                      split at hc
                      · rename_i c' e
                        split at hc
                        · simp only [Option.some.injEq] at hc
                          rw [e, hc]
                        · cases hc
                      · cases hc
                    exact ⟨(pstep_parts h1 h2 h3 h4 h5 h6 (.inr ⟨hw, hc'⟩)).2 hk, hk, (prow0_inv hc').2.2⟩
                · cases h
def preadO (l : List UInt8) : List SOp := (pread l).getD []
def preadB (l : List UInt8) : Bool := (pread l).isSome
theorem readA_eq (l : List UInt8) : readA l = .tup [.sl 12 ((preadO l).map SOp.row), bv (preadB l)] := by
  unfold readA preadO preadB
  cases pread l <;> rfl
theorem preadO_fits (l : List UInt8) : ∀ o ∈ preadO l, S.check o = true ∧ S.fits o := by
  unfold preadO
  cases h : pread l with
  | none => intro o ho; cases ho
  | some os =>
    intro o ho
    unfold pread at h
    split at h
    · cases h
    · split at h
      · cases h
      · rename_i h2
        split at h
        · simp only [Option.some.injEq] at h
          subst h
          exact (pmany_inv (enc := S.one) (Q := fun o => S.check o = true ∧ S.fits o) (fun r x t h => ⟨(pstep_inv h).1, (pstep_inv h).2⟩) _ _ _ _ h2).2.2 o ho
        · cases h
theorem stE_no {s : ByteArray} {r : List UInt8} (hr : r <:+ s.data.toList) (h : (stE s r : Int) = 0) : pstep r = none := by
  cases hp : pstep r with
  | none => rfl
  | some x =>
    exfalso
    obtain ⟨o, t⟩ := x
    rw [(st_yes hp).2] at h
    have h1 := (pstep_inv hp).1
    have h2 := suf_len hr
    have h3 := one_pos (o := o)
    have h4 := congrArg List.length h1
    rw [List.length_append] at h4
    have : ((s.size - t.length : Nat) : Int) = 0 := h
    omega
theorem stE_yes {s : ByteArray} {r : List UInt8} (hr : r <:+ s.data.toList) (h : ¬ (stE s r : Int) = 0) : ∃ o t, pstep r = some (o, t) ∧ stO r = o ∧ stE s r = pos s t ∧ t <:+ s.data.toList := by
  cases hp : pstep r with
  | none => exact absurd (by rw [(st_no hp).2]; rfl) h
  | some x =>
    obtain ⟨o, t⟩ := x
    exact ⟨o, t, rfl, (st_yes (s := s) hp).1, (st_yes hp).2, suf_app (p := S.one o) (by rw [← (pstep_inv hp).1]; exact hr)⟩
end V
set_option maxRecDepth 100000 in
set_option maxHeartbeats 2000000 in
theorem rreadall_a (s : ByteArray) (hs : s.size ≤ 1000000) : ACall Try.prog 15 [tv s] (V.readA s.data.toList) := by
  rw [V.readA_eq]
  refine ACall_enter2 (fun _ _ => by kernel_rfl) Try.func15 rfl Try.ntmps15 Try.results15 (Nat.le_of_ble_eq_true rfl) (fun hok M0 w0 hnl => ?_)
  have hr0 : s.data.toList <:+ s.data.toList := List.suffix_refl _
  have hp0 : V.pos s s.data.toList = 0 := by show s.size - s.data.toList.length = 0; rw [Array.length_toList]; exact Nat.sub_self _
  have hps : ∀ r, V.pos s r ≤ s.size := fun r => Nat.sub_le _ _
  refine Aw_seq ?_
  refine Aw_region ?_
  refine Al_pu (Pu_move (.inr rfl) (by conv => lhs; whnf)) rfl rfl (by decide) (by kernel_rfl) ?_
  refine Al_pu (Pu_move (.inr rfl) (by conv => lhs; whnf)) rfl rfl (by decide) (by kernel_rfl) ?_
  refine Al_nil ?_
  refine Aw_seq ?_
  refine Aw_region ?_
  refine Al_pu (Pu_move (.inl rfl) (by conv => lhs; whnf)) rfl rfl (by decide) (by kernel_rfl) ?_
  have hrd := rread_a s (V.pos s s.data.toList) hs (hps _)
  rw [hp0] at hrd
  refine Al_pu (Pu_call (hrd) rfl ⟨Sub.rfl, Sub.rfl, trivial⟩) rfl rfl (by decide) (by kernel_rfl) ?_
  refine Al_alloc rfl rfl rfl (by decide) Try.zeroValue72 rfl (by kernel_rfl) (fun g4 => ?_)
  refine Al_storeN rfl rfl rfl (by kernel_rfl) Try.isAgg72 Try.sizeOf72 rfl rfl rfl rfl (Nat.le_of_ble_eq_true rfl) ?_
  refine Al_nil ?_
  refine Aw_seq ?_
  refine Aw_seq ?_
  refine Aw_region ?_
  refine Al_pu (Pu_fieldb 1 rfl Try.underlying72 rfl rfl Try.sizeOf3 rfl) rfl rfl (by decide) (by kernel_rfl) ?_
  refine Al_pu (Pu_loadb rfl Try.isAgg3 rfl rfl rfl) rfl rfl (by decide) (by kernel_rfl) ?_
  refine Al_pu (Pu_cmp rfl rfl rfl rfl) rfl rfl (by decide) (by kernel_rfl) ?_
  refine Al_pu (Pu_move (.inl rfl) (by conv => lhs; whnf)) rfl rfl (by decide) (by kernel_rfl) ?_
  refine Al_st (St_gd [] rfl rfl rfl rfl trivial (fun hg15 => Pu_fieldb 0 rfl Try.underlying72 rfl rfl Try.sizeOf63 rfl)) rfl (by decide) (by kernel_rfl) (by intro j b oj dj h1 h2 h3; cases h1; cases h2; cases h3; decide) ?_
  refine Al_st (St_gd [15] rfl rfl rfl rfl ⟨⟨_, rfl⟩, trivial⟩ (fun hg16 => Pu_loadb rfl Try.isAgg63 rfl rfl rfl)) rfl (by decide) (by kernel_rfl) (by intro j b oj dj h1 h2 h3; cases h1; cases h2; cases h3; decide) ?_
  refine Al_st (St_gd [16] rfl rfl rfl rfl ⟨⟨_, rfl⟩, trivial⟩ (fun hg17 => Pu_cmp rfl rfl rfl rfl)) rfl (by decide) (by kernel_rfl) (by intro j b oj dj h1 h2 h3; cases h1; cases h2; cases h3; decide) ?_
  refine Al_pu (Pu_or rfl rfl rfl rfl) rfl rfl (by decide) (by kernel_rfl) ?_
  refine Al_nil ?_
  refine Aw_cond rfl (fun h18 => ?_) (fun h18 => ?_)
  · skip
    have hno : V.pread s.data.toList = none := by
      unfold V.pread
      rw [V.rnum_no (most := 4096) hr0 (by rw [hp0]; exact h18)]
    refine Aw_seq ?_
    refine Aw_region ?_
    refine Al_pu (Pu_move (.inr rfl) (by conv => lhs; whnf)) rfl rfl (by decide) (by kernel_rfl) ?_
    refine Al_pu (Pu_move (.inr rfl) (by conv => lhs; whnf)) rfl rfl (by decide) (by kernel_rfl) ?_
    refine Al_nil ?_
    refine Aw_ret ?_
    exact ⟨by unfold V.preadO; rw [hno]; exact Sub.nil, by unfold V.preadB; rw [hno]; exact Sub.rfl⟩ -- ret 0
  · skip
    obtain ⟨n, r, k1, k2, k3, hr, hn4⟩ := V.rnum_yes (most := 4096) hr0 (by rw [hp0]; exact h18)
    rw [hp0] at k2 k3
    rw [k2, k3]
    refine Aw_skip ?_
    refine Aw_seq ?_
    refine Aw_region ?_
    refine Al_pu (Pu_move (.inr rfl) (by conv => lhs; whnf)) rfl rfl (by decide) (by kernel_rfl) ?_
    refine Al_nil ?_
    refine Aw_seq ?_
    refine Aw_region ?_
    refine Al_pu (Pu_fieldb 1 rfl Try.underlying72 rfl rfl Try.sizeOf3 rfl) rfl rfl (by decide) (by kernel_rfl) ?_
    refine Al_pu (Pu_loadb rfl Try.isAgg3 rfl rfl rfl) rfl rfl (by decide) (by kernel_rfl) ?_
    refine Al_pu (Pu_move (.inr rfl) (by conv => lhs; whnf)) rfl rfl (by decide) (by kernel_rfl) ?_
    refine Al_nil ?_
    refine Aw_seq ?_
    refine Aw_seq ?_
    refine Aw_region ?_
    refine Al_pu (Pu_move (.inr rfl) (by conv => lhs; whnf)) rfl rfl (by decide) (by kernel_rfl) ?_
    refine Al_nil ?_
    refine Aw_block ?_
    refine Aw_own (j := 5) (k := 5) (T := 30) (n := 12) rfl (fun g0 => ?_)
    refine Aw_loopk (ι := Nat × (List SOp) × (List UInt8) × Nat) [0, 4] [4] (fun (i, os, ri, g) => [(7, .d (uv i)), (6, .d (iv (V.pos s ri))), (5, .ow 5 g)]) (fun (i, os, ri, g) => [(5, g, .arr 30 12 (os.map SOp.row))]) (fun (i, os, ri, g) => i ≤ n ∧ ri <:+ s.data.toList ∧ os.length = i ∧ V.pmany V.pstep i r = some (os, ri)) (fun (i, os, ri, g) => n - i) ((0, [], r, g0)) (⟨Nat.zero_le _, ⟨hr, rfl, rfl⟩⟩) ⟨Sub.rfl, Sub.rfl, Sub.rfl, trivial⟩ ⟨rfl, trivial⟩ ?_
    rintro ⟨i, os, ri, g⟩ ⟨hk0, ⟨hri, hol, hpo⟩⟩
    refine Aw_seq ?_
    refine Aw_seq ?_
    refine Aw_region ?_
    refine Al_pu (Pu_move (.inl rfl) (by conv => lhs; whnf)) rfl rfl (by decide) (by kernel_rfl) ?_
    refine Al_pu (Pu_fieldb 0 rfl Try.underlying72 rfl rfl Try.sizeOf63 rfl) rfl rfl (by decide) (by kernel_rfl) ?_
    refine Al_pu (Pu_loadb rfl Try.isAgg63 rfl rfl rfl) rfl rfl (by decide) (by kernel_rfl) ?_
    refine Al_pu (Pu_cmp rfl rfl rfl rfl) rfl rfl (by decide) (by kernel_rfl) ?_
    refine Al_nil ?_
    refine Aw_cond rfl (fun h24 => ?_) (fun h24 => ?_)
    · (try simp only [decide_eq_true_eq, decide_eq_false_iff_not, Bool.and_eq_true, Bool.or_eq_true, Bool.and_eq_false_iff, Bool.or_eq_false_iff, Bool.not_eq_true', Bool.not_eq_false', beq_iff_eq, Bool.not_eq_eq_eq_not, Bool.not_true, Bool.not_false, List.length_map, Bool.and_true, Bool.and_false, Bool.false_and, Bool.true_and, Bool.or_false, Bool.false_or] at h24)
      refine Aw_skip ?_
      refine Aw_seq ?_
      refine Aw_block ?_
      refine Aw_seq ?_
      refine Aw_region ?_
      refine Al_pu (Pu_move (.inl rfl) (by conv => lhs; whnf)) rfl rfl (by decide) (by kernel_rfl) ?_
      refine Al_pu (Pu_move (.inl rfl) (by conv => lhs; whnf)) rfl rfl (by decide) (by kernel_rfl) ?_
      refine Al_pu (Pu_call (rstep_a s ri hs hri) rfl ⟨Sub.rfl, Sub.rfl, trivial⟩) rfl rfl (by decide) (by kernel_rfl) ?_
      refine Al_alloc rfl rfl rfl (by decide) Try.zeroValue75 rfl (by kernel_rfl) (fun g8 => ?_)
      refine Al_storeN rfl rfl rfl (by kernel_rfl) Try.isAgg75 Try.sizeOf75 rfl rfl rfl rfl (Nat.le_of_ble_eq_true rfl) ?_
      refine Al_nil ?_
      refine Aw_seq ?_
      refine Aw_seq ?_
      refine Aw_region ?_
      refine Al_pu (Pu_fieldb 12 rfl Try.underlying75 rfl rfl Try.sizeOf3 rfl) rfl rfl (by decide) (by kernel_rfl) ?_
      refine Al_pu (Pu_loadb rfl Try.isAgg3 rfl rfl rfl) rfl rfl (by decide) (by kernel_rfl) ?_
      refine Al_pu (Pu_cmp rfl rfl rfl rfl) rfl rfl (by decide) (by kernel_rfl) ?_
      refine Al_nil ?_
      refine Aw_cond rfl (fun h32 => ?_) (fun h32 => ?_)
      · (try simp only [decide_eq_true_eq, decide_eq_false_iff_not, Bool.and_eq_true, Bool.or_eq_true, Bool.and_eq_false_iff, Bool.or_eq_false_iff, Bool.not_eq_true', Bool.not_eq_false', beq_iff_eq, Bool.not_eq_eq_eq_not, Bool.not_true, Bool.not_false, List.length_map, Bool.and_true, Bool.and_false, Bool.false_and, Bool.true_and, Bool.or_false, Bool.false_or] at h32)
        have hno : V.pread s.data.toList = none := by
          have hx := V.stE_no hri h32
          have hxn := V.pmany_none (p := V.pstep) (k := i + 1) (m := n) (r := r) (by rw [V.pmany_snoc, hpo]; simp only [hx]) (by omega)
          unfold V.pread
          simp only [k1, hxn]
        refine Aw_seq ?_
        refine Aw_region ?_
        refine Al_pu (Pu_move (.inr rfl) (by conv => lhs; whnf)) rfl rfl (by decide) (by kernel_rfl) ?_
        refine Al_pu (Pu_move (.inr rfl) (by conv => lhs; whnf)) rfl rfl (by decide) (by kernel_rfl) ?_
        refine Al_nil ?_
        refine Aw_ret ?_
        exact ⟨by unfold V.preadO; rw [hno]; exact Sub.nil, by unfold V.preadB; rw [hno]; exact Sub.rfl⟩ -- ret 1
      · (try simp only [decide_eq_true_eq, decide_eq_false_iff_not, Bool.and_eq_true, Bool.or_eq_true, Bool.and_eq_false_iff, Bool.or_eq_false_iff, Bool.not_eq_true', Bool.not_eq_false', beq_iff_eq, Bool.not_eq_eq_eq_not, Bool.not_true, Bool.not_false, List.length_map, Bool.and_true, Bool.and_false, Bool.false_and, Bool.true_and, Bool.or_false, Bool.false_or] at h32)
        obtain ⟨o, t, hx, k4, k5, ht⟩ := V.stE_yes hri h32
        rw [k4, k5]
        refine Aw_skip ?_
        refine Aw_seq ?_
        refine Aw_region ?_
        refine Al_pu (Pu_move (.inl rfl) (by conv => lhs; whnf)) rfl rfl (by decide) (by kernel_rfl) ?_
        refine Al_pu (Pu_fieldb 0 rfl Try.underlying75 rfl rfl Try.sizeOf30 rfl) rfl rfl (by decide) (by kernel_rfl) ?_
        refine Al_pu (Pu_loadbN (r := [_, _, _, _, _, _, _, _, _, _, _, _]) rfl Try.isAgg30 Try.sizeOf30 rfl rfl rfl rfl) rfl rfl (by decide) (by kernel_rfl) ?_
        refine Al_pu (Pu_slice1 rfl Try.underlying22 Try.sizeOf30 Try.zeroValue30 rfl (by decide) (by decide) (by kernel_rfl) rfl rfl rfl) rfl rfl (by decide) (by kernel_rfl) ?_
        refine Al_append rfl rfl rfl (by decide) (by kernel_rfl) elem22 (by decide) Try.sizeOf30 rfl rfl rfl (by simp; omega) (by decide) (fun g37 => ?_)
        refine Al_pu (Pu_move (.inr rfl) (by conv => lhs; whnf)) rfl rfl (by decide) (by kernel_rfl) ?_
        refine Al_nil ?_
        refine Aw_region ?_
        refine Al_pu (Pu_fieldb 12 rfl Try.underlying75 rfl rfl Try.sizeOf3 rfl) rfl rfl (by decide) (by kernel_rfl) ?_
        refine Al_pu (Pu_loadb rfl Try.isAgg3 rfl rfl rfl) rfl rfl (by decide) (by kernel_rfl) ?_
        refine Al_pu (Pu_move (.inr rfl) (by conv => lhs; whnf)) rfl rfl (by decide) (by kernel_rfl) ?_
        refine Al_nil ?_
        refine Aw_region ?_
        refine Al_pu (Pu_move (.inl rfl) (by conv => lhs; whnf)) rfl rfl (by decide) (by kernel_rfl) ?_
        refine Al_pu (Pu_int_add rfl rfl rfl (u64_nat (by omega) (by omega)).1 (fun _ => (u64_nat (by omega) (by omega)).2)) rfl rfl (by decide) (by kernel_rfl) ?_
        refine Al_pu (Pu_move (.inr rfl) (by conv => lhs; whnf)) rfl rfl (by decide) (by kernel_rfl) ?_
        refine Al_nil ?_
        exact ⟨(i + 1, (os ++ [o]), t, g37), ⟨by omega, ⟨ht, by simp [hol], by rw [V.pmany_snoc, hpo]; simp only [hx]⟩⟩, by simp only []; omega, Le.ov ⟨Sub.num (by omega), Sub.rfl, Sub.rfl, trivial⟩ ⟨Sub.rfl, Sub.rfl, trivial⟩ ⟨obeq (by simp [A.cellsA, SOp.row]), trivial⟩ ⟨rfl, trivial⟩⟩ -- loop 0 next.0
    · (try simp only [decide_eq_true_eq, decide_eq_false_iff_not, Bool.and_eq_true, Bool.or_eq_true, Bool.and_eq_false_iff, Bool.or_eq_false_iff, Bool.not_eq_true', Bool.not_eq_false', beq_iff_eq, Bool.not_eq_eq_eq_not, Bool.not_true, Bool.not_false, List.length_map, Bool.and_true, Bool.and_false, Bool.false_and, Bool.true_and, Bool.or_false, Bool.false_or] at h24)
      have hii : i = n := by omega
      rw [hii] at hpo hol
      have hlen := V.suf_len hri
      refine Aw_exit ?_
      refine Aw_seq ?_
      refine Aw_seq ?_
      refine Aw_region ?_
      refine Al_pu (Pu_move (.inl rfl) (by conv => lhs; whnf)) rfl rfl (by decide) (by kernel_rfl) ?_
      refine Al_pu (Pu_move (.inl rfl) (by conv => lhs; whnf)) rfl rfl (by decide) (by kernel_rfl) ?_
      refine Al_pu (Pu_lenS rfl Try.underlying9 rfl) rfl rfl (by decide) (by kernel_rfl) ?_
      refine Al_pu (Pu_cmp rfl rfl rfl rfl) rfl rfl (by decide) (by kernel_rfl) ?_
      refine Al_nil ?_
      refine Aw_cond rfl (fun h43 => ?_) (fun h43 => ?_)
      · (try simp only [decide_eq_true_eq, decide_eq_false_iff_not, Bool.and_eq_true, Bool.or_eq_true, Bool.and_eq_false_iff, Bool.or_eq_false_iff, Bool.not_eq_true', Bool.not_eq_false', beq_iff_eq, Bool.not_eq_eq_eq_not, Bool.not_true, Bool.not_false, List.length_map, Bool.and_true, Bool.and_false, Bool.false_and, Bool.true_and, Bool.or_false, Bool.false_or] at h43)
        have hno : V.pread s.data.toList = none := by
          unfold V.pread
          simp only [k1, hpo]
          rw [if_neg]
          intro e
          apply h43
          rw [e]; show ((s.size - 0 : Nat) : Int) = _; rw [Nat.sub_zero]
        refine Aw_seq ?_
        refine Aw_region ?_
        refine Al_pu (Pu_move (.inr rfl) (by conv => lhs; whnf)) rfl rfl (by decide) (by kernel_rfl) ?_
        refine Al_pu (Pu_move (.inr rfl) (by conv => lhs; whnf)) rfl rfl (by decide) (by kernel_rfl) ?_
        refine Al_nil ?_
        refine Aw_ret ?_
        exact ⟨by unfold V.preadO; rw [hno]; exact Sub.nil, by unfold V.preadB; rw [hno]; exact Sub.rfl⟩ -- ret 2
      · (try simp only [decide_eq_true_eq, decide_eq_false_iff_not, Bool.and_eq_true, Bool.or_eq_true, Bool.and_eq_false_iff, Bool.or_eq_false_iff, Bool.not_eq_true', Bool.not_eq_false', beq_iff_eq, Bool.not_eq_eq_eq_not, Bool.not_true, Bool.not_false, List.length_map, Bool.and_true, Bool.and_false, Bool.false_and, Bool.true_and, Bool.or_false, Bool.false_or] at h43)
        have hyes : V.pread s.data.toList = some os := by
          unfold V.pread
          simp only [k1, hpo]
          rw [if_pos]
          apply List.eq_nil_of_length_eq_zero
          have h8 : ((s.size - ri.length : Nat) : Int) = s.size := by simpa using h43
          omega
        refine Aw_skip ?_
        refine Aw_seq ?_
        refine Aw_region ?_
        refine Al_pu (Pu_move (.inl rfl) (by conv => lhs; whnf)) rfl rfl (by decide) (by kernel_rfl) ?_
        refine Al_pu (Pu_move (.inr rfl) (by conv => lhs; whnf)) rfl rfl (by decide) (by kernel_rfl) ?_
        refine Al_pu (Pu_move (.inr rfl) (by conv => lhs; whnf)) rfl rfl (by decide) (by kernel_rfl) ?_
        refine Al_nil ?_
        refine Aw_frz hnl (k := 5) [2, 5] rfl ⟨rfl, rfl, trivial⟩ ?_
        refine Aw_ret ?_
        exact ⟨by unfold V.preadO; rw [hyes]; exact Sub.rfl, by unfold V.preadB; rw [hyes]; exact Sub.rfl⟩ -- ret 3
end Go.Proofs.Ytocgnmklgklfnaa
