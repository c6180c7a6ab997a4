/- vary.Read: the walk. -/
/- Steps read from bytes; plain. -/
/- Readers: vary.ReadText; script.reader's and wire.reader's methods; wire.many. -/
/- script.reader's methods. -/
/- wire.reader's methods, wire.many. -/
import Derived.Test.YtocgnmklgklfnaaVRd
import Derived.Test.YtocgnmklgklfnaaSRd0
import Derived.Test.YtocgnmklgklfnaaSRef
import Derived.Test.YtocgnmklgklfnaaAX
set_option linter.unusedSimpArgs false
set_option linter.unusedVariables false
namespace Go.Proofs.Ytocgnmklgklfnaa
open Go.RowKit A R
namespace V
/-- What vary.Read answers: the number, the place behind it; whether there is one. -/
def gotN (s : ByteArray) (at_ : Nat) : Nat := match rdB (s.data.toList.drop at_) with | some (n, _) => n | none => 0
def gotE (s : ByteArray) (at_ : Nat) : Nat := match rdB (s.data.toList.drop at_) with | some (_, r) => s.size - r.length | none => 0
def gotB (s : ByteArray) (at_ : Nat) : Bool := (rdB (s.data.toList.drop at_)).isSome
theorem got_none {s : ByteArray} {at_ : Nat} (h : rdB (s.data.toList.drop at_) = none) : gotN s at_ = 0 ∧ gotE s at_ = 0 ∧ gotB s at_ = false := by
  unfold gotN gotE gotB; rw [h]; exact ⟨rfl, rfl, rfl⟩
theorem got_some {s : ByteArray} {at_ n : Nat} {r : List UInt8} (h : rdB (s.data.toList.drop at_) = some (n, r)) : gotN s at_ = n ∧ gotE s at_ = s.size - r.length ∧ gotB s at_ = true := by
  unfold gotN gotE gotB; rw [h]; exact ⟨rfl, rfl, rfl⟩
theorem low_bits (c : UInt8) : IntKind.u64.wrap (BitVec.ofInt IntKind.u64.bits ((c.toNat : Nat) : Int) &&& ~~~BitVec.ofInt IntKind.u64.bits 128).toNat = ((c.toNat % 128 : Nat) : Int) := by
  have h : ∀ x : Fin 256, IntKind.u64.wrap (BitVec.ofInt IntKind.u64.bits ((x : Nat) : Int) &&& ~~~BitVec.ofInt IntKind.u64.bits 128).toNat = (((x : Nat) % 128 : Nat) : Int) := by decide +kernel
  exact h ⟨c.toNat, UInt8.toNat_lt c⟩
theorem pow7 (k : Nat) : (2 : Nat) ^ (7 * k) = 128 ^ k := by rw [Nat.pow_mul]
theorem or_bits {a b k : Nat} (ha : a < 128 ^ k) (hb : 128 ^ k * b < 18446744073709551616) (h : a + 128 ^ k * b < 18446744073709551616) : IntKind.u64.wrap (BitVec.ofInt IntKind.u64.bits (a : Int) ||| BitVec.ofInt IntKind.u64.bits ((128 ^ k * b : Nat) : Int)).toNat = ((a + 128 ^ k * b : Nat) : Int) := by
  have e : a ||| 128 ^ k * b = a + 128 ^ k * b := by
    rw [← pow7] at *
    rw [Nat.or_comm, ← Nat.two_pow_add_eq_or_of_lt ha]
    omega
  have e1 : (BitVec.ofInt IntKind.u64.bits (a : Int)).toNat = a := by
    show (BitVec.ofInt 64 (a : Int)).toNat = a
    rw [BitVec.ofInt_natCast, BitVec.toNat_ofNat]; omega
  have e2 : (BitVec.ofInt IntKind.u64.bits ((128 ^ k * b : Nat) : Int)).toNat = 128 ^ k * b := by
    show (BitVec.ofInt 64 ((128 ^ k * b : Nat) : Int)).toNat = _
    rw [BitVec.ofInt_natCast, BitVec.toNat_ofNat]; omega
  rw [BitVec.toNat_or, e1, e2, e]
  exact IntWalk.u64_in _ ⟨by omega, by omega⟩
theorem two_pow_cast (n : Nat) : ((2 ^ n : Nat) : Int) = (2 : Int) ^ n := by rw [Int.natCast_pow]; rfl
theorem shl_bits (b sh : Nat) : IntKind.u64.wrap ((b : Int) * 2 ^ ((sh : Int)).toNat) = ((b * 2 ^ sh % 18446744073709551616 : Nat) : Int) := by
  rw [IntKind.wrap_u64, Int.toNat_natCast, ← two_pow_cast, ← Int.natCast_mul]
  generalize b * 2 ^ sh = x
  omega
theorem shr_bits (x sh : Nat) : (x : Int) / 2 ^ ((sh : Int)).toNat = ((x / 2 ^ sh : Nat) : Int) := by
  rw [Int.toNat_natCast, ← two_pow_cast, Int.natCast_ediv]
theorem brk {k acc : Nat} {c : UInt8} {t : List UInt8} (h : 64 ≤ 7 * k ∨ c.toNat % 128 * 2 ^ (7 * k) % 18446744073709551616 / 2 ^ (7 * k) ≠ c.toNat % 128 ∨ (c.toNat = 0 ∧ 0 < k)) : comb k acc (rd (c :: t)) = none := by
  rcases h with h | h | ⟨h, h2⟩
  · exact comb_far (by omega) _
  · refine comb_over ?_
    rw [← pow7]
    rcases Nat.lt_or_ge (2 ^ (7 * k) * (c.toNat % 128)) 18446744073709551616 with hl | hl
    · exfalso
      apply h
      rw [Nat.mul_comm, Nat.mod_eq_of_lt hl, Nat.mul_div_cancel_left _ (Nat.pow_pos (by omega))]
    · exact hl
  · rw [comb_last (by omega), if_neg (by omega)]
theorem no_over {k b : Nat} (h : b * 2 ^ (7 * k) % 18446744073709551616 / 2 ^ (7 * k) = b) (hk : ¬ 64 ≤ 7 * k) : 128 ^ k * b < 18446744073709551616 := by
  rw [← pow7]
  have hp : 0 < 2 ^ (7 * k) := Nat.pow_pos (by omega)
  have h1 := Nat.mod_lt (b * 2 ^ (7 * k)) (show 18446744073709551616 > 0 by omega)
  have h2 := Nat.div_mul_le_self (b * 2 ^ (7 * k) % 18446744073709551616) (2 ^ (7 * k))
  rw [h, Nat.mul_comm] at h2
  omega
theorem acc_fit {a b k : Nat} (ha : a < 128 ^ k) (hk : ¬ 64 ≤ 7 * k) (hb : 128 ^ k * b < 18446744073709551616) : a + 128 ^ k * b < 18446744073709551616 := by
  rw [← pow7] at *
  have hp : 0 < 2 ^ (7 * k) := Nat.pow_pos (by omega)
  have e : 2 ^ (7 * k) * 2 ^ (64 - 7 * k) = 18446744073709551616 := by
    rw [← Nat.pow_add, show 7 * k + (64 - 7 * k) = 64 by omega]
  have hb2 : b < 2 ^ (64 - 7 * k) := by
    rw [← e] at hb
    exact Nat.lt_of_mul_lt_mul_left hb
  have h3 : 2 ^ (7 * k) * (b + 1) ≤ 2 ^ (7 * k) * 2 ^ (64 - 7 * k) := Nat.mul_le_mul_left _ hb2
  rw [e, Nat.mul_add] at h3
  omega
end V
set_option maxRecDepth 100000 in
theorem vread_a (s : ByteArray) (at_ : Nat) (hs : s.size ≤ 1000000) : ACall Try.prog 45 [tv s, iv at_] (.tup [uv (V.gotN s at_), iv (V.gotE s at_), bv (V.gotB s at_)]) := by
  refine ACall_enterG (fun _ _ => by kernel_rfl) Try.func45 rfl Try.ntmps45 (Reads.r3 Try.results45) (Nat.le_of_ble_eq_true rfl) (fun hok M0 w0 hnl => ?_)
  refine Aw_seq ?_
  refine Aw_region ?_
  refine Al_pu (Pu_move (.inr rfl) (by conv => lhs; whnf)) rfl rfl (by decide) (by kernel_rfl) ?_
  refine Al_pu (Pu_move (.inr rfl) (by conv => lhs; whnf)) rfl rfl (by decide) (by kernel_rfl) ?_
  refine Al_pu (Pu_move (.inr rfl) (by conv => lhs; whnf)) rfl rfl (by decide) (by kernel_rfl) ?_
  refine Al_nil ?_
  refine Aw_scope ?_
  refine Aw_seq ?_
  refine Aw_seq ?_
  refine Aw_region ?_
  refine Al_pu (Pu_move (.inl rfl) (by conv => lhs; whnf)) rfl rfl (by decide) (by kernel_rfl) ?_
  refine Al_pu (Pu_cmp rfl rfl rfl rfl) rfl rfl (by decide) (by kernel_rfl) ?_
  refine Al_pu (Pu_move (.inl rfl) (by conv => lhs; whnf)) rfl rfl (by decide) (by kernel_rfl) ?_
  refine Al_st (St_gd [] rfl rfl rfl rfl trivial (fun hg14 => by exact Pu_move (.inl rfl) (by conv => lhs; whnf))) rfl (by decide) (by kernel_rfl) (by intro j b oj dj h1 h2 h3; cases h1; cases h2; cases h3; decide) ?_
  refine Al_st (St_gd [] rfl rfl rfl rfl trivial (fun hg15 => by exact Pu_move (.inl rfl) (by conv => lhs; whnf))) rfl (by decide) (by kernel_rfl) (by intro j b oj dj h1 h2 h3; cases h1; cases h2; cases h3; decide) ?_
  refine Al_st (St_gd [15] rfl rfl rfl rfl ⟨⟨_, rfl⟩, trivial⟩ (fun hg16 => Pu_lenS rfl Try.underlying9 rfl)) rfl (by decide) (by kernel_rfl) (by intro j b oj dj h1 h2 h3; cases h1; cases h2; cases h3; decide) ?_
  refine Al_st (St_gd [14, 16] rfl rfl rfl rfl ⟨⟨_, rfl⟩, ⟨_, rfl⟩, trivial⟩ (fun hg17 => Pu_cmp rfl rfl rfl rfl)) rfl (by decide) (by kernel_rfl) (by intro j b oj dj h1 h2 h3; cases h1; cases h2; cases h3; decide) ?_
  refine Al_pu (Pu_or rfl rfl rfl rfl) rfl rfl (by decide) (by kernel_rfl) ?_
  refine Al_nil ?_
  refine Aw_cond rfl (fun h18 => ?_) (fun h18 => ?_)
  · skip
    have hge : s.size ≤ at_ := by
      simp only [Bool.or_eq_true, decide_eq_true_eq] at h18
      omega
    obtain ⟨e1, e2, e3⟩ := V.got_none (s := s) (at_ := at_) (by rw [List.drop_eq_nil_of_le (by simpa using hge)]; rfl)
    refine Aw_seq ?_
    refine Aw_region ?_
    refine Al_pu (Pu_move (.inr rfl) (by conv => lhs; whnf)) rfl rfl (by decide) (by kernel_rfl) ?_
    refine Al_pu (Pu_move (.inr rfl) (by conv => lhs; whnf)) rfl rfl (by decide) (by kernel_rfl) ?_
    refine Al_pu (Pu_move (.inr rfl) (by conv => lhs; whnf)) rfl rfl (by decide) (by kernel_rfl) ?_
    refine Al_nil ?_
    refine Aw_ret ?_
    exact ⟨_, _, _, rfl, Sub.num (by rw [e1]; rfl), Sub.num (by rw [e2]; rfl), Sub.bool (by rw [e3])⟩ -- ret 0
  · skip
    have hlt : at_ < s.size := by
      simp only [Bool.or_eq_false_iff, decide_eq_false_iff_not] at h18
      omega
    refine Aw_skip ?_
    refine Aw_seq ?_
    refine Aw_label ?_
    -- join 0: live [], turned []
    refine Aw_seq ?_
    refine Aw_seq ?_
    refine Aw_region ?_
    refine Al_pu (Pu_move (.inl rfl) (by conv => lhs; whnf)) rfl rfl (by decide) (by kernel_rfl) ?_
    refine Al_pu (Pu_move (.inr rfl) (by conv => lhs; whnf)) rfl rfl (by decide) (by kernel_rfl) ?_
    refine Al_nil ?_
    refine Aw_block ?_
    refine Aw_loopk (ι := Nat × Nat) [0, 1] [] (fun (k, acc) => [(7, .d (iv ((at_ + k : Nat) : Int))), (4, .d (uv acc))]) (fun (k, acc) => []) (fun (k, acc) => at_ + k ≤ s.size ∧ acc < 128 ^ k ∧ acc < 18446744073709551616 ∧ V.rdB (s.data.toList.drop at_) = V.comb k acc (V.rd (s.data.toList.drop (at_ + k)))) (fun (k, acc) => s.size - (at_ + k)) (0, 0) (⟨by omega, by simp, by omega, rfl⟩) ⟨Sub.num (by omega), Sub.rfl, trivial⟩ trivial ?_
    rintro ⟨k, acc⟩ ⟨hk1, hk2, hk3, hk4⟩
    refine Aw_seq ?_
    refine Aw_seq ?_
    refine Aw_region ?_
    refine Al_pu (Pu_move (.inl rfl) (by conv => lhs; whnf)) rfl rfl (by decide) (by kernel_rfl) ?_
    refine Al_pu (Pu_move (.inl rfl) (by conv => lhs; whnf)) rfl rfl (by decide) (by kernel_rfl) ?_
    refine Al_pu (Pu_lenS rfl Try.underlying9 rfl) rfl rfl (by decide) (by kernel_rfl) ?_
    refine Al_pu (Pu_cmp rfl rfl rfl rfl) rfl rfl (by decide) (by kernel_rfl) ?_
    refine Al_nil ?_
    refine Aw_cond rfl (fun h23 => ?_) (fun h23 => ?_)
    · (try simp only [decide_eq_true_eq, decide_eq_false_iff_not, Bool.and_eq_true, Bool.or_eq_true, Bool.and_eq_false_iff, Bool.or_eq_false_iff, Bool.not_eq_true', Bool.not_eq_false', beq_iff_eq, Bool.not_eq_eq_eq_not, Bool.not_true, Bool.not_false, List.length_map, Bool.and_true, Bool.and_false, Bool.false_and, Bool.true_and, Bool.or_false, Bool.false_or] at h23)
      have hi : at_ + k < s.size := by omega
      have hdr : s.data.toList.drop (at_ + k) = s[at_ + k] :: s.data.toList.drop (at_ + k + 1) := by
        rw [List.drop_eq_getElem_cons (by simpa using hi)]; rfl
      rw [hdr] at hk4
      have hcl := UInt8.toNat_lt s[at_ + k]
      have q41 : decide (64 ≤ ((7 * k : Nat) : Int)) = false → (0 : Int) ≤ ((7 * k : Nat) : Int) ∧ ((7 * k : Nat) : Int) ≤ (IntKind.u64.bits : Nat) := fun h => by
        have := of_decide_eq_false h
        exact ⟨by omega, by show ((7 * k : Nat) : Int) ≤ 64; omega⟩
      have q2 : vok (.int .u64 ((s[at_ + k].toNat % 128 * 2 ^ (7 * k) % 18446744073709551616 : Nat) : Int)) := ⟨by omega, by omega⟩
      have q3 : vok (.int .u64 ((s[at_ + k].toNat % 128 * 2 ^ (7 * k) % 18446744073709551616 / 2 ^ (7 * k) : Nat) : Int)) := by
        have := Nat.div_le_self (s[at_ + k].toNat % 128 * 2 ^ (7 * k) % 18446744073709551616) (2 ^ (7 * k))
        have h2 := Nat.mod_lt (s[at_ + k].toNat % 128 * 2 ^ (7 * k)) (show 18446744073709551616 > 0 by omega)
        exact ⟨Int.natCast_nonneg _, Int.ofNat_le.2 (Nat.le_trans this (Nat.le_of_lt_succ h2))⟩
      refine Aw_skip ?_
      refine Aw_seq ?_
      refine Aw_block ?_
      refine Aw_seq ?_
      refine Aw_region ?_
      refine Al_pu (Pu_move (.inl rfl) (by conv => lhs; whnf)) rfl rfl (by decide) (by kernel_rfl) ?_
      refine Al_pu (Pu_move (.inl rfl) (by conv => lhs; whnf)) rfl rfl (by decide) (by kernel_rfl) ?_
      refine Al_pu (Pu_indexS rfl Try.underlying9 rfl rfl (rfl) (getS hi)) rfl rfl (by decide) (by kernel_rfl) ?_
      refine Al_pu (Pu_conv rfl Try.underlying5 Try.underlying63 rfl (fun hv => u64_nat (by omega) (by simp only [vok, A.inI] at hv; omega))) rfl rfl (by decide) (by kernel_rfl) ?_
      refine Al_pu (Pu_move (.inr rfl) (by conv => lhs; whnf)) rfl rfl (by decide) (by kernel_rfl) ?_
      refine Al_nil ?_
      refine Aw_seq ?_
      refine Aw_region ?_
      refine Al_pu (Pu_move (.inl rfl) (by conv => lhs; whnf)) rfl rfl (by decide) (by kernel_rfl) ?_
      refine Al_pu (Pu_move (.inl rfl) (by conv => lhs; whnf)) rfl rfl (by decide) (by kernel_rfl) ?_
      refine Al_pu (Pu_sub rfl rfl rfl (fun h1 h2 => by simp only [A.inI, A.maxI] at *; omega)) rfl rfl (by decide) (by kernel_rfl) ?_
      refine Al_pu (Pu_int_mul (r := ((7 * k : Nat) : Int)) rfl rfl rfl (by rw [show (7 : Int) * (((at_ + k : Nat) : Int) - (at_ : Int)) = ((7 * k : Nat) : Int) from by omega]; exact IntWalk.i64_in _ (by omega)) (fun _ => by show A.inI _; simp only [A.inI]; omega)) rfl rfl (by decide) (by kernel_rfl) ?_
      refine Al_pu (Pu_move (.inr rfl) (by conv => lhs; whnf)) rfl rfl (by decide) (by kernel_rfl) ?_
      refine Al_nil ?_
      refine Aw_seq ?_
      refine Aw_region ?_
      refine Al_pu (Pu_move (.inl rfl) (by conv => lhs; whnf)) rfl rfl (by decide) (by kernel_rfl) ?_
      refine Al_pu (Pu_int_andNot (r := ((s[at_ + k].toNat % 128 : Nat) : Int)) rfl rfl rfl (V.low_bits _) (fun _ => by constructor <;> omega)) rfl rfl (by decide) (by kernel_rfl) ?_
      refine Al_pu (Pu_move (.inr rfl) (by conv => lhs; whnf)) rfl rfl (by decide) (by kernel_rfl) ?_
      refine Al_nil ?_
      refine Aw_seq ?_
      refine Aw_seq ?_
      refine Aw_region ?_
      refine Al_pu (Pu_move (.inl rfl) (by conv => lhs; whnf)) rfl rfl (by decide) (by kernel_rfl) ?_
      refine Al_pu (Pu_cmp rfl rfl rfl rfl) rfl rfl (by decide) (by kernel_rfl) ?_
      refine Al_pu (Pu_move (.inl rfl) (by conv => lhs; whnf)) rfl rfl (by decide) (by kernel_rfl) ?_
      refine Al_st (St_gd [] rfl rfl rfl rfl trivial (fun hg39 => by exact Pu_move (.inl rfl) (by conv => lhs; whnf))) rfl (by decide) (by kernel_rfl) (by intro j b oj dj h1 h2 h3; cases h1; cases h2; cases h3; decide) ?_
      refine Al_st (St_gd [] rfl rfl rfl rfl trivial (fun hg40 => by exact Pu_move (.inl rfl) (by conv => lhs; whnf))) rfl (by decide) (by kernel_rfl) (by intro j b oj dj h1 h2 h3; cases h1; cases h2; cases h3; decide) ?_
      refine Al_st (St_gd [39, 40] rfl rfl rfl rfl ⟨⟨_, rfl⟩, ⟨_, rfl⟩, trivial⟩ (fun hg41 => Pu_int_shl rfl rfl rfl (q41 hg41) (V.shl_bits (s[at_ + k].toNat % 128) (7 * k)) (fun _ => q2))) rfl (by decide) (by kernel_rfl) (by intro j b oj dj h1 h2 h3; cases h1; cases h2; cases h3; decide) ?_
      refine Al_st (St_gd [] rfl rfl rfl rfl trivial (fun hg42 => by exact Pu_move (.inl rfl) (by conv => lhs; whnf))) rfl (by decide) (by kernel_rfl) (by intro j b oj dj h1 h2 h3; cases h1; cases h2; cases h3; decide) ?_
      refine Al_st (St_gd [41, 42] rfl rfl rfl rfl ⟨⟨_, rfl⟩, ⟨_, rfl⟩, trivial⟩ (fun hg43 => Pu_int_shr rfl rfl rfl (q41 hg43) (V.shr_bits (s[at_ + k].toNat % 128 * 2 ^ (7 * k) % 18446744073709551616) (7 * k)) (fun _ => q3))) rfl (by decide) (by kernel_rfl) (by intro j b oj dj h1 h2 h3; cases h1; cases h2; cases h3; decide) ?_
      refine Al_st (St_gd [] rfl rfl rfl rfl trivial (fun hg44 => by exact Pu_move (.inl rfl) (by conv => lhs; whnf))) rfl (by decide) (by kernel_rfl) (by intro j b oj dj h1 h2 h3; cases h1; cases h2; cases h3; decide) ?_
      refine Al_st (St_gd [43, 44] rfl rfl rfl rfl ⟨⟨_, rfl⟩, ⟨_, rfl⟩, trivial⟩ (fun hg45 => Pu_cmp rfl rfl rfl rfl)) rfl (by decide) (by kernel_rfl) (by intro j b oj dj h1 h2 h3; cases h1; cases h2; cases h3; decide) ?_
      refine Al_pu (Pu_or rfl rfl rfl rfl) rfl rfl (by decide) (by kernel_rfl) ?_
      refine Al_pu (Pu_move (.inl rfl) (by conv => lhs; whnf)) rfl rfl (by decide) (by kernel_rfl) ?_
      refine Al_st (St_gd [] rfl rfl rfl rfl trivial (fun hg48 => by exact Pu_move (.inl rfl) (by conv => lhs; whnf))) rfl (by decide) (by kernel_rfl) (by intro j b oj dj h1 h2 h3; cases h1; cases h2; cases h3; decide) ?_
      refine Al_st (St_gd [48] rfl rfl rfl rfl ⟨⟨_, rfl⟩, trivial⟩ (fun hg49 => Pu_cmp rfl rfl rfl rfl)) rfl (by decide) (by kernel_rfl) (by intro j b oj dj h1 h2 h3; cases h1; cases h2; cases h3; decide) ?_
      refine Al_st (St_gd [49] rfl rfl rfl rfl ⟨⟨_, rfl⟩, trivial⟩ (fun hg50 => by exact Pu_move (.inl rfl) (by conv => lhs; whnf))) rfl (by decide) (by kernel_rfl) (by intro j b oj dj h1 h2 h3; cases h1; cases h2; cases h3; decide) ?_
      refine Al_st (St_gd2 [] rfl rfl rfl rfl trivial (fun hp51 hg51 => by exact Pu_move (.inl rfl) (by conv => lhs; whnf))) rfl (by decide) (by kernel_rfl) (by intro j b oj dj h1 h2 h3; cases h1; cases h2; cases h3; decide) ?_
      refine Al_st (St_gd2 [] rfl rfl rfl rfl trivial (fun hp52 hg52 => by exact Pu_move (.inl rfl) (by conv => lhs; whnf))) rfl (by decide) (by kernel_rfl) (by intro j b oj dj h1 h2 h3; cases h1; cases h2; cases h3; decide) ?_
      refine Al_st (St_gd2 [51, 52] rfl rfl rfl rfl ⟨⟨_, rfl⟩, ⟨_, rfl⟩, trivial⟩ (fun hp53 hg53 => Pu_cmp rfl rfl rfl rfl)) rfl (by decide) (by kernel_rfl) (by intro j b oj dj h1 h2 h3; cases h1; cases h2; cases h3; decide) ?_
      refine Al_st (St_gd [50] rfl rfl rfl rfl ⟨⟨_, rfl⟩, trivial⟩ (fun hg54 => Pu_andG rfl rfl (fun h => ⟨hg54, h⟩) rfl rfl)) rfl (by decide) (by kernel_rfl) (by intro j b oj dj h1 h2 h3; cases h1; cases h2; cases h3; decide) ?_
      refine Al_pu (Pu_or rfl rfl rfl rfl) rfl rfl (by decide) (by kernel_rfl) ?_
      refine Al_nil ?_
      refine Aw_cond rfl (fun h55 => ?_) (fun h55 => ?_)
      · skip
        have hbk : V.rdB (s.data.toList.drop at_) = none := by
          rw [hk4]
          refine V.brk ?_
          simp only [Bool.or_eq_true, Bool.and_eq_true, Bool.not_eq_true', decide_eq_true_eq, decide_eq_false_iff_not] at h55
          rcases h55 with (h | h) | ⟨h, h'⟩
          · exact .inl (by omega)
          · exact .inr (.inl fun e => h (by rw [e]))
          · exact .inr (.inr ⟨by omega, by omega⟩)
        obtain ⟨e1, e2, e3⟩ := V.got_none hbk
        refine Aw_exit ?_
        refine Aw_seq ?_
        refine Aw_region ?_
        refine Al_pu (Pu_move (.inr rfl) (by conv => lhs; whnf)) rfl rfl (by decide) (by kernel_rfl) ?_
        refine Al_pu (Pu_move (.inr rfl) (by conv => lhs; whnf)) rfl rfl (by decide) (by kernel_rfl) ?_
        refine Al_pu (Pu_move (.inr rfl) (by conv => lhs; whnf)) rfl rfl (by decide) (by kernel_rfl) ?_
        refine Al_nil ?_
        refine Aw_ret ?_
        exact ⟨_, _, _, rfl, Sub.num (by rw [e1]; rfl), Sub.num (by rw [e2]; rfl), Sub.bool (by rw [e3])⟩ -- ret 1
      · skip
        have hsf : ¬ 64 ≤ 7 * k ∧ s[at_ + k].toNat % 128 * 2 ^ (7 * k) % 18446744073709551616 / 2 ^ (7 * k) = s[at_ + k].toNat % 128 ∧ (k = 0 ∨ s[at_ + k].toNat ≠ 0) := by
          simp only [Bool.or_eq_false_iff, Bool.and_eq_false_iff, Bool.not_eq_false', decide_eq_true_eq, decide_eq_false_iff_not] at h55
          obtain ⟨⟨h, h'⟩, h''⟩ := h55
          exact ⟨by omega, Int.ofNat_inj.1 h', by omega⟩
        obtain ⟨s1, s2, s3⟩ := hsf
        have hov := V.no_over s2 s1
        have hfit := V.acc_fit hk2 s1 hov
        have q59 : (0 : Int) ≤ ((7 * k : Nat) : Int) ∧ ((7 * k : Nat) : Int) ≤ (IntKind.u64.bits : Nat) := ⟨by omega, by show ((7 * k : Nat) : Int) ≤ 64; omega⟩
        have q60 : IntKind.u64.wrap (((s[at_ + k].toNat % 128 : Nat) : Int) * 2 ^ (((7 * k : Nat) : Int)).toNat) = ((128 ^ k * (s[at_ + k].toNat % 128) : Nat) : Int) := by
          rw [V.shl_bits, V.pow7, Nat.mul_comm, Nat.mod_eq_of_lt hov]
        refine Aw_skip ?_
        refine Aw_seq ?_
        refine Aw_region ?_
        refine Al_pu (Pu_move (.inl rfl) (by conv => lhs; whnf)) rfl rfl (by decide) (by kernel_rfl) ?_
        refine Al_pu (Pu_move (.inl rfl) (by conv => lhs; whnf)) rfl rfl (by decide) (by kernel_rfl) ?_
        refine Al_pu (Pu_move (.inl rfl) (by conv => lhs; whnf)) rfl rfl (by decide) (by kernel_rfl) ?_
        refine Al_pu (Pu_int_shl rfl rfl rfl q59 q60 (fun _ => by exact ⟨by omega, by omega⟩)) rfl rfl (by decide) (by kernel_rfl) ?_
        refine Al_pu (Pu_int_or rfl rfl rfl (V.or_bits hk2 hov hfit) (fun _ => by exact ⟨by omega, by omega⟩)) rfl rfl (by decide) (by kernel_rfl) ?_
        refine Al_pu (Pu_move (.inr rfl) (by conv => lhs; whnf)) rfl rfl (by decide) (by kernel_rfl) ?_
        refine Al_nil ?_
        refine Aw_seq ?_
        refine Aw_region ?_
        refine Al_pu (Pu_move (.inl rfl) (by conv => lhs; whnf)) rfl rfl (by decide) (by kernel_rfl) ?_
        refine Al_pu (Pu_cmp rfl rfl rfl rfl) rfl rfl (by decide) (by kernel_rfl) ?_
        refine Al_nil ?_
        refine Aw_cond rfl (fun h62 => ?_) (fun h62 => ?_)
        · (try simp only [decide_eq_true_eq, decide_eq_false_iff_not, Bool.and_eq_true, Bool.or_eq_true, Bool.and_eq_false_iff, Bool.or_eq_false_iff, Bool.not_eq_true', Bool.not_eq_false', beq_iff_eq, Bool.not_eq_eq_eq_not, Bool.not_true, Bool.not_false, List.length_map, Bool.and_true, Bool.and_false, Bool.false_and, Bool.true_and, Bool.or_false, Bool.false_or] at h62)
          have hsm : s[at_ + k].toNat < 128 := by omega
          have hmo : s[at_ + k].toNat % 128 = s[at_ + k].toNat := Nat.mod_eq_of_lt hsm
          rw [hmo] at hfit
          have hgot := V.got_some (s := s) (at_ := at_) (n := acc + 128 ^ k * s[at_ + k].toNat) (r := s.data.toList.drop (at_ + k + 1)) (by rw [hk4, V.comb_last hsm, if_pos ⟨s3, hfit⟩])
          obtain ⟨e1, e2, e3⟩ := hgot
          have elen : (s.data.toList.drop (at_ + k + 1)).length = s.size - (at_ + k + 1) := by rw [List.length_drop]; rfl
          refine Aw_seq ?_
          refine Aw_region ?_
          refine Al_pu (Pu_move (.inl rfl) (by conv => lhs; whnf)) rfl rfl (by decide) (by kernel_rfl) ?_
          refine Al_pu (Pu_move (.inl rfl) (by conv => lhs; whnf)) rfl rfl (by decide) (by kernel_rfl) ?_
          refine Al_pu (Pu_add rfl rfl rfl (fun h1 h2 => by simp only [A.inI, A.maxI] at *; omega)) rfl rfl (by decide) (by kernel_rfl) ?_
          refine Al_pu (Pu_move (.inr rfl) (by conv => lhs; whnf)) rfl rfl (by decide) (by kernel_rfl) ?_
          refine Al_pu (Pu_move (.inr rfl) (by conv => lhs; whnf)) rfl rfl (by decide) (by kernel_rfl) ?_
          refine Al_pu (Pu_move (.inr rfl) (by conv => lhs; whnf)) rfl rfl (by decide) (by kernel_rfl) ?_
          refine Al_nil ?_
          refine Aw_ret ?_
          exact ⟨_, _, _, rfl, Sub.num (by rw [e1, hmo]), Sub.num (by rw [e2, elen]; omega), Sub.bool (by rw [e3])⟩ -- ret 2
        · (try simp only [decide_eq_true_eq, decide_eq_false_iff_not, Bool.and_eq_true, Bool.or_eq_true, Bool.and_eq_false_iff, Bool.or_eq_false_iff, Bool.not_eq_true', Bool.not_eq_false', beq_iff_eq, Bool.not_eq_eq_eq_not, Bool.not_true, Bool.not_false, List.length_map, Bool.and_true, Bool.and_false, Bool.false_and, Bool.true_and, Bool.or_false, Bool.false_or] at h62)
          have hbg : 128 ≤ s[at_ + k].toNat := by omega
          have hmo : s[at_ + k].toNat % 128 = s[at_ + k].toNat - 128 := by omega
          have hacc : acc + 128 ^ k * (s[at_ + k].toNat % 128) < 128 ^ (k + 1) := by
            have h1 : 128 ^ k * (s[at_ + k].toNat % 128) ≤ 128 ^ k * 127 := Nat.mul_le_mul_left _ (by omega)
            rw [Nat.pow_succ]; omega
          refine Aw_skip ?_
          refine Aw_region ?_
          refine Al_pu (Pu_move (.inl rfl) (by conv => lhs; whnf)) rfl rfl (by decide) (by kernel_rfl) ?_
          refine Al_pu (Pu_add rfl rfl rfl (fun h1 h2 => by simp only [A.inI, A.maxI] at *; omega)) rfl rfl (by decide) (by kernel_rfl) ?_
          refine Al_pu (Pu_move (.inr rfl) (by conv => lhs; whnf)) rfl rfl (by decide) (by kernel_rfl) ?_
          refine Al_nil ?_
          exact ⟨(k + 1, acc + 128 ^ k * (s[at_ + k].toNat % 128)), ⟨by omega, hacc, hfit, by rw [hk4, V.comb_more hbg, hmo]; rfl⟩, by simp only []; omega, Le.ov ⟨Sub.num (by omega), Sub.rfl, trivial⟩ ⟨Sub.rfl, Sub.rfl, trivial⟩ trivial trivial⟩ -- loop 0 next.0
    · (try simp only [decide_eq_true_eq, decide_eq_false_iff_not, Bool.and_eq_true, Bool.or_eq_true, Bool.and_eq_false_iff, Bool.or_eq_false_iff, Bool.not_eq_true', Bool.not_eq_false', beq_iff_eq, Bool.not_eq_eq_eq_not, Bool.not_true, Bool.not_false, List.length_map, Bool.and_true, Bool.and_false, Bool.false_and, Bool.true_and, Bool.or_false, Bool.false_or] at h23)
      have hend : s.size ≤ at_ + k := by omega
      rw [List.drop_eq_nil_of_le (show s.data.toList.length ≤ at_ + k from hend)] at hk4
      obtain ⟨e1, e2, e3⟩ := V.got_none (s := s) (at_ := at_) hk4
      refine Aw_exit ?_
      refine Aw_seq ?_
      refine Aw_region ?_
      refine Al_pu (Pu_move (.inr rfl) (by conv => lhs; whnf)) rfl rfl (by decide) (by kernel_rfl) ?_
      refine Al_pu (Pu_move (.inr rfl) (by conv => lhs; whnf)) rfl rfl (by decide) (by kernel_rfl) ?_
      refine Al_pu (Pu_move (.inr rfl) (by conv => lhs; whnf)) rfl rfl (by decide) (by kernel_rfl) ?_
      refine Al_nil ?_
      refine Aw_ret ?_
      exact ⟨_, _, _, rfl, Sub.num (by rw [e1]; rfl), Sub.num (by rw [e2]; rfl), Sub.bool (by rw [e3])⟩ -- ret 3
end Go.Proofs.Ytocgnmklgklfnaa

set_option linter.unusedSimpArgs false
set_option linter.unusedVariables false
namespace Go.Proofs.Ytocgnmklgklfnaa
namespace V
/-- A number up to a bound. -/
def pnum (most : Nat) (r : List UInt8) : Option (Nat × List UInt8) := match rdB r with
  | some (n, t) => if n ≤ most then some (n, t) else none
  | none => none
/-- A text up to a bound. -/
def ptext (most : Nat) (r : List UInt8) : Option (List UInt8 × List UInt8) := match rdB r with
  | some (n, t) => if n ≤ most ∧ n ≤ t.length then some (t.take n, t.drop n) else none
  | none => none
/-- So many of them. -/
def pmany {α : Type} (p : List UInt8 → Option (α × List UInt8)) : Nat → List UInt8 → Option (List α × List UInt8)
  | 0, r => some ([], r)
  | k + 1, r => match p r with
    | none => none
    | some (x, t) => match pmany p k t with
      | none => none
      | some (xs, t') => some (x :: xs, t')
theorem pmany_snoc {α : Type} {p : List UInt8 → Option (α × List UInt8)} : ∀ (k : Nat) (r : List UInt8), pmany p (k + 1) r = (match pmany p k r with
    | none => none
    | some (xs, t) => match p t with
      | none => none
      | some (x, t') => some (xs ++ [x], t'))
  | 0, r => by
    simp only [pmany]
    cases p r with
    | none => rfl
    | some y => rfl
  | k + 1, r => by
    rw [pmany]
    conv => rhs; rw [pmany]
    cases h : p r with
    | none => rfl
    | some y =>
      obtain ⟨x, t⟩ := y
      simp only
      rw [pmany_snoc k t]
      cases pmany p k t with
      | none => rfl
      | some z =>
        obtain ⟨xs, t'⟩ := z
        simp only
        cases p t' with
        | none => rfl
        | some u => rfl
theorem pmany_none {α : Type} {p : List UInt8 → Option (α × List UInt8)} {k m : Nat} {r : List UInt8} (h : pmany p k r = none) (hk : k ≤ m) : pmany p m r = none := by
  induction m with
  | zero => rwa [show k = 0 from by omega] at h
  | succ m ih =>
    rcases Nat.lt_or_ge m k with h1 | h1
    · rwa [show m + 1 = k from by omega]
    · rw [pmany_snoc, ih h1]
theorem rdB_suf {r t : List UInt8} {n : Nat} (h : rdB r = some (n, t)) : n < 18446744073709551616 ∧ r = num n ++ t := by
  unfold rdB at h
  cases hr : rd r with
  | none => rw [hr] at h; cases h
  | some x =>
    obtain ⟨m, t'⟩ := x
    rw [hr] at h
    simp only [comb] at h
    split at h
    · rename_i hc
      simp only [Option.some.injEq, Prod.mk.injEq] at h
      obtain ⟨h1, rfl⟩ := h
      have : m = n := by omega
      subst this
      exact ⟨by omega, rd_some _ _ _ hr⟩
    · cases h
theorem rdB_num {n : Nat} (hn : n < 18446744073709551616) (t : List UInt8) : rdB (num n ++ t) = some (n, t) := by
  unfold rdB
  rw [rd_num]
  simp only [comb]
  rw [if_pos ⟨.inl trivial, by omega⟩]
  simp
theorem rdB_iff {r t : List UInt8} {n : Nat} : rdB r = some (n, t) ↔ n < 18446744073709551616 ∧ r = num n ++ t := ⟨rdB_suf, fun ⟨h1, h2⟩ => h2 ▸ rdB_num h1 t⟩
theorem pnum_iff {most n : Nat} {r t : List UInt8} (hm : most < 18446744073709551616) : pnum most r = some (n, t) ↔ n ≤ most ∧ r = num n ++ t := by
  unfold pnum
  constructor
  · intro h
    split at h
    · rename_i n' t' hr
      split at h
      · cases h; exact ⟨by assumption, (rdB_suf hr).2⟩
      · cases h
    · cases h
  · rintro ⟨h1, rfl⟩
    rw [rdB_num (by omega)]
    simp [h1]
theorem text_ba (x : List UInt8) : text (ba x) = num x.length ++ x := by
  unfold text; rw [A.ba_sz]
theorem ptext_iff {most : Nat} {r t : List UInt8} {x : List UInt8} (hm : most < 18446744073709551616) : ptext most r = some (x, t) ↔ x.length ≤ most ∧ r = text (ba x) ++ t := by
  rw [text_ba]
  unfold ptext
  constructor
  · intro h
    split at h
    · rename_i n' t' hr
      split at h
      · rename_i hc
        simp only [Option.some.injEq, Prod.mk.injEq] at h
        obtain ⟨rfl, rfl⟩ := h
        have hl : (t'.take n').length = n' := by simp; omega
        rw [hl]
        exact ⟨hc.1, by rw [(rdB_suf hr).2, List.append_assoc, List.take_append_drop]⟩
      · cases h
    · cases h
  · rintro ⟨h1, rfl⟩
    rw [List.append_assoc, rdB_num (by omega)]
    simp [h1]
/-- What is behind a place. -/
theorem drop_suf {s : ByteArray} {r : List UInt8} (h : r <:+ s.data.toList) : s.data.toList.drop (s.size - r.length) = r := by
  obtain ⟨p, hp⟩ := h
  have hs : s.size = p.length + r.length := by
    show s.data.size = _
    rw [← Array.length_toList, ← hp, List.length_append]
  rw [← hp, hs, Nat.add_sub_cancel, List.drop_left]
theorem suf_app {p t l : List UInt8} (h : p ++ t <:+ l) : t <:+ l := (List.suffix_append p t).trans h
theorem suf_len {s : ByteArray} {r : List UInt8} (h : r <:+ s.data.toList) : r.length ≤ s.size := by
  have := h.length_le
  rwa [Array.length_toList] at this
end V
end Go.Proofs.Ytocgnmklgklfnaa

set_option linter.unusedSimpArgs false
set_option linter.unusedVariables false
namespace Go.Proofs.Ytocgnmklgklfnaa
open Go.RowKit A R
namespace V
/-- What vary.ReadText answers. -/
def rtT (s : ByteArray) (at_ most : Nat) : ByteArray := match ptext most (s.data.toList.drop at_) with | some (x, _) => ba x | none => ⟨#[]⟩
def rtE (s : ByteArray) (at_ most : Nat) : Nat := match ptext most (s.data.toList.drop at_) with | some (_, t) => s.size - t.length | none => 0
def rtB (s : ByteArray) (at_ most : Nat) : Bool := (ptext most (s.data.toList.drop at_)).isSome
theorem got_cases (s : ByteArray) (at_ : Nat) : (gotB s at_ = false ∧ gotN s at_ = 0 ∧ gotE s at_ = 0 ∧ rdB (s.data.toList.drop at_) = none) ∨ ∃ n t, gotB s at_ = true ∧ gotN s at_ = n ∧ gotE s at_ = s.size - t.length ∧ rdB (s.data.toList.drop at_) = some (n, t) ∧ n < 18446744073709551616 ∧ t <:+ s.data.toList := by
  cases h : rdB (s.data.toList.drop at_) with
  | none => obtain ⟨e1, e2, e3⟩ := got_none h; exact .inl ⟨e3, e1, e2, rfl⟩
  | some x =>
    obtain ⟨n, t⟩ := x
    obtain ⟨e1, e2, e3⟩ := got_some h
    obtain ⟨h1, h2⟩ := rdB_suf h
    exact .inr ⟨n, t, e3, e1, e2, rfl, h1, suf_app (p := num n) (by rw [← h2]; exact List.drop_suffix _ _)⟩
theorem cut_ba (s : ByteArray) (t : List UInt8) (n : Nat) (h : t <:+ s.data.toList) (hn : n ≤ t.length) : s.extract (s.size - t.length) (s.size - t.length + n) = ba (t.take n) := by
  apply ByteArray.ext
  apply Array.ext'
  rw [ByteArray.data_extract]
  rw [Array.toList_extract]
  simp only [List.extract]
  show List.take _ (List.drop _ _) = t.take n
  rw [drop_suf h, Nat.add_sub_cancel_left]
theorem rt_none {s : ByteArray} {at_ most : Nat} (h : ptext most (s.data.toList.drop at_) = none) : rtT s at_ most = ⟨#[]⟩ ∧ rtE s at_ most = 0 ∧ rtB s at_ most = false := by
  unfold rtT rtE rtB; rw [h]; exact ⟨rfl, rfl, rfl⟩
theorem rt_some {s : ByteArray} {at_ most : Nat} {x t : List UInt8} (h : ptext most (s.data.toList.drop at_) = some (x, t)) : rtT s at_ most = ba x ∧ rtE s at_ most = s.size - t.length ∧ rtB s at_ most = true := by
  unfold rtT rtE rtB; rw [h]; exact ⟨rfl, rfl, rfl⟩
end V
set_option maxRecDepth 100000 in
theorem readtext_a (s : ByteArray) (at_ most : Nat) (hs : s.size ≤ 1000000) (hm : most ≤ 1000000) : ACall Try.prog 58 [tv s, iv at_, iv most] (.tup [tv (V.rtT s at_ most), iv (V.rtE s at_ most), bv (V.rtB s at_ most)]) := by
  refine ACall_enterG (fun _ _ => by kernel_rfl) Try.func58 rfl Try.ntmps58 (Reads.r3 Try.results58) (Nat.le_of_ble_eq_true rfl) (fun hok M0 w0 hnl => ?_)
  have hcs := V.got_cases s at_
  have hE : V.gotE s at_ ≤ s.size := by
    rcases hcs with ⟨_, _, h, _⟩ | ⟨n, t, _, _, h, _⟩ <;> omega
  have hN : V.gotN s at_ < 18446744073709551616 := by
    rcases hcs with ⟨_, h, _, _⟩ | ⟨n, t, _, h, _, _, h2, _⟩ <;> omega
  refine Aw_seq ?_
  refine Aw_region ?_
  refine Al_pu (Pu_move (.inr rfl) (by conv => lhs; whnf)) rfl rfl (by decide) (by kernel_rfl) ?_
  refine Al_pu (Pu_move (.inr rfl) (by conv => lhs; whnf)) rfl rfl (by decide) (by kernel_rfl) ?_
  refine Al_pu (Pu_move (.inr rfl) (by conv => lhs; whnf)) rfl rfl (by decide) (by kernel_rfl) ?_
  refine Al_nil ?_
  refine Aw_seq ?_
  refine Aw_region ?_
  refine Al_pu (Pu_move (.inl rfl) (by conv => lhs; whnf)) rfl rfl (by decide) (by kernel_rfl) ?_
  refine Al_pu (Pu_move (.inl rfl) (by conv => lhs; whnf)) rfl rfl (by decide) (by kernel_rfl) ?_
  refine Al_pu (Pu_call (vread_a s at_ hs) rfl ⟨Sub.rfl, Sub.rfl, trivial⟩) rfl rfl (by decide) (by kernel_rfl) ?_
  refine Al_pu (Pu_move (.inl rfl) (by conv => lhs; whnf)) rfl rfl (by decide) (by kernel_rfl) ?_
  refine Al_pu (Pu_extract rfl rfl rfl) rfl rfl (by decide) (by kernel_rfl) ?_
  refine Al_pu (Pu_extract rfl rfl rfl) rfl rfl (by decide) (by kernel_rfl) ?_
  refine Al_pu (Pu_extract rfl rfl rfl) rfl rfl (by decide) (by kernel_rfl) ?_
  refine Al_pu (Pu_move (.inr rfl) (by conv => lhs; whnf)) rfl rfl (by decide) (by kernel_rfl) ?_
  refine Al_pu (Pu_move (.inr rfl) (by conv => lhs; whnf)) rfl rfl (by decide) (by kernel_rfl) ?_
  refine Al_pu (Pu_move (.inr rfl) (by conv => lhs; whnf)) rfl rfl (by decide) (by kernel_rfl) ?_
  refine Al_nil ?_
  refine Aw_seq ?_
  refine Aw_seq ?_
  refine Aw_region ?_
  refine Al_pu (Pu_move (.inl rfl) (by conv => lhs; whnf)) rfl rfl (by decide) (by kernel_rfl) ?_
  refine Al_pu (Pu_not rfl rfl) rfl rfl (by decide) (by kernel_rfl) ?_
  refine Al_pu (Pu_move (.inl rfl) (by conv => lhs; whnf)) rfl rfl (by decide) (by kernel_rfl) ?_
  refine Al_st (St_gd [] rfl rfl rfl rfl trivial (fun hg21 => by exact Pu_move (.inl rfl) (by conv => lhs; whnf))) rfl (by decide) (by kernel_rfl) (by intro j b oj dj h1 h2 h3; cases h1; cases h2; cases h3; decide) ?_
  refine Al_st (St_gd [21] rfl rfl rfl rfl ⟨⟨_, rfl⟩, trivial⟩ (fun hg22 => Pu_cmp rfl rfl rfl rfl)) rfl (by decide) (by kernel_rfl) (by intro j b oj dj h1 h2 h3; cases h1; cases h2; cases h3; decide) ?_
  refine Al_pu (Pu_or rfl rfl rfl rfl) rfl rfl (by decide) (by kernel_rfl) ?_
  refine Al_pu (Pu_move (.inl rfl) (by conv => lhs; whnf)) rfl rfl (by decide) (by kernel_rfl) ?_
  refine Al_st (St_gd [] rfl rfl rfl rfl trivial (fun hg25 => by exact Pu_move (.inl rfl) (by conv => lhs; whnf))) rfl (by decide) (by kernel_rfl) (by intro j b oj dj h1 h2 h3; cases h1; cases h2; cases h3; decide) ?_
  refine Al_st (St_gd [] rfl rfl rfl rfl trivial (fun hg26 => by exact Pu_move (.inl rfl) (by conv => lhs; whnf))) rfl (by decide) (by kernel_rfl) (by intro j b oj dj h1 h2 h3; cases h1; cases h2; cases h3; decide) ?_
  refine Al_st (St_gd [26] rfl rfl rfl rfl ⟨⟨_, rfl⟩, trivial⟩ (fun hg27 => by exact Pu_conv rfl Try.underlying3 Try.underlying63 rfl (fun hv => u64_nat (by omega) (by simp only [vok, A.inI] at hv; omega)))) rfl (by decide) (by kernel_rfl) (by intro j b oj dj h1 h2 h3; cases h1; cases h2; cases h3; decide) ?_
  refine Al_st (St_gd [25, 27] rfl rfl rfl rfl ⟨⟨_, rfl⟩, ⟨_, rfl⟩, trivial⟩ (fun hg28 => Pu_cmp rfl rfl rfl rfl)) rfl (by decide) (by kernel_rfl) (by intro j b oj dj h1 h2 h3; cases h1; cases h2; cases h3; decide) ?_
  refine Al_pu (Pu_or rfl rfl rfl rfl) rfl rfl (by decide) (by kernel_rfl) ?_
  refine Al_pu (Pu_move (.inl rfl) (by conv => lhs; whnf)) rfl rfl (by decide) (by kernel_rfl) ?_
  refine Al_st (St_gd [] rfl rfl rfl rfl trivial (fun hg31 => by exact Pu_move (.inl rfl) (by conv => lhs; whnf))) rfl (by decide) (by kernel_rfl) (by intro j b oj dj h1 h2 h3; cases h1; cases h2; cases h3; decide) ?_
  refine Al_st (St_gd [] rfl rfl rfl rfl trivial (fun hg32 => by exact Pu_move (.inl rfl) (by conv => lhs; whnf))) rfl (by decide) (by kernel_rfl) (by intro j b oj dj h1 h2 h3; cases h1; cases h2; cases h3; decide) ?_
  refine Al_st (St_gd [32] rfl rfl rfl rfl ⟨⟨_, rfl⟩, trivial⟩ (fun hg33 => Pu_lenS rfl Try.underlying9 rfl)) rfl (by decide) (by kernel_rfl) (by intro j b oj dj h1 h2 h3; cases h1; cases h2; cases h3; decide) ?_
  refine Al_st (St_gd [] rfl rfl rfl rfl trivial (fun hg34 => by exact Pu_move (.inl rfl) (by conv => lhs; whnf))) rfl (by decide) (by kernel_rfl) (by intro j b oj dj h1 h2 h3; cases h1; cases h2; cases h3; decide) ?_
  refine Al_st (St_gd [33, 34] rfl rfl rfl rfl ⟨⟨_, rfl⟩, ⟨_, rfl⟩, trivial⟩ (fun hg35 => by exact Pu_sub rfl rfl rfl (fun h1 h2 => by simp only [A.inI, A.maxI] at *; omega))) rfl (by decide) (by kernel_rfl) (by intro j b oj dj h1 h2 h3; cases h1; cases h2; cases h3; decide) ?_
  refine Al_st (St_gd [35] rfl rfl rfl rfl ⟨⟨_, rfl⟩, trivial⟩ (fun hg36 => by exact Pu_conv rfl Try.underlying3 Try.underlying63 rfl (fun hv => u64_nat (by omega) (by omega)))) rfl (by decide) (by kernel_rfl) (by intro j b oj dj h1 h2 h3; cases h1; cases h2; cases h3; decide) ?_
  refine Al_st (St_gd [31, 36] rfl rfl rfl rfl ⟨⟨_, rfl⟩, ⟨_, rfl⟩, trivial⟩ (fun hg37 => Pu_cmp rfl rfl rfl rfl)) rfl (by decide) (by kernel_rfl) (by intro j b oj dj h1 h2 h3; cases h1; cases h2; cases h3; decide) ?_
  refine Al_pu (Pu_or rfl rfl rfl rfl) rfl rfl (by decide) (by kernel_rfl) ?_
  refine Al_nil ?_
  refine Aw_cond rfl (fun h38 => ?_) (fun h38 => ?_)
  · skip
    have hno : V.ptext most (s.data.toList.drop at_) = none := by
      simp only [Bool.or_eq_true, Bool.not_eq_true', decide_eq_true_eq] at h38
      unfold V.ptext
      rcases hcs with ⟨h1, h2, h3, h4⟩ | ⟨n, t, h1, h2, h3, h4, h5, h6⟩
      · rw [h4]
      · rw [h4]
        have hl := V.suf_len h6
        rw [h1, h2, h3] at h38
        simp only
        rw [if_neg]
        rintro ⟨k1, k2⟩
        rcases h38 with (((h | h) | h) | h)
        · cases h
        · omega
        · omega
        · omega
    obtain ⟨e1, e2, e3⟩ := V.rt_none hno
    refine Aw_seq ?_
    refine Aw_region ?_
    refine Al_pu (Pu_move (.inr rfl) (by conv => lhs; whnf)) rfl rfl (by decide) (by kernel_rfl) ?_
    refine Al_pu (Pu_move (.inr rfl) (by conv => lhs; whnf)) rfl rfl (by decide) (by kernel_rfl) ?_
    refine Al_pu (Pu_move (.inr rfl) (by conv => lhs; whnf)) rfl rfl (by decide) (by kernel_rfl) ?_
    refine Al_nil ?_
    refine Aw_ret ?_
    exact ⟨_, _, _, rfl, Sub.str (by rw [e1]), Sub.num (by rw [e2]; rfl), Sub.bool (by rw [e3])⟩ -- ret 0
  · skip
    have hyes : ∃ n t, V.gotN s at_ = n ∧ V.gotE s at_ = s.size - t.length ∧ V.ptext most (s.data.toList.drop at_) = some (t.take n, t.drop n) ∧ n ≤ t.length ∧ t <:+ s.data.toList ∧ n ≤ most := by
      simp only [Bool.or_eq_false_iff, Bool.not_eq_false', decide_eq_false_iff_not] at h38
      obtain ⟨⟨⟨h38, h39⟩, h40⟩, h41⟩ := h38
      rcases hcs with ⟨h1, h2, h3, h4⟩ | ⟨n, t, h1, h2, h3, h4, h5, h6⟩
      · rw [h1] at h38; cases h38
      · have hl := V.suf_len h6
        rw [h2] at h40 h41
        rw [h3] at h41
        refine ⟨n, t, h2, h3, ?_, by omega, h6, by omega⟩
        unfold V.ptext
        rw [h4]
        simp only
        rw [if_pos ⟨by omega, by omega⟩]
    obtain ⟨n, t, k1, k2, k3, k4, k5, k6⟩ := hyes
    have hl := V.suf_len k5
    obtain ⟨e1, e2, e3⟩ := V.rt_some k3
    rw [k1, k2]
    refine Aw_skip ?_
    refine Aw_seq ?_
    refine Aw_region ?_
    refine Al_pu (Pu_move (.inl rfl) (by conv => lhs; whnf)) rfl rfl (by decide) (by kernel_rfl) ?_
    refine Al_pu (Pu_move (.inl rfl) (by conv => lhs; whnf)) rfl rfl (by decide) (by kernel_rfl) ?_
    refine Al_pu (Pu_conv rfl Try.underlying63 Try.underlying3 rfl (fun hv => i64_nat (by simp only [A.inI]; omega))) rfl rfl (by decide) (by kernel_rfl) ?_
    refine Al_pu (Pu_add rfl rfl rfl (fun h1 h2 => by simp only [A.inI, A.maxI] at *; omega)) rfl rfl (by decide) (by kernel_rfl) ?_
    refine Al_pu (Pu_move (.inr rfl) (by conv => lhs; whnf)) rfl rfl (by decide) (by kernel_rfl) ?_
    refine Al_nil ?_
    refine Aw_seq ?_
    refine Aw_region ?_
    refine Al_pu (Pu_move (.inl rfl) (by conv => lhs; whnf)) rfl rfl (by decide) (by kernel_rfl) ?_
    refine Al_pu (Pu_move (.inl rfl) (by conv => lhs; whnf)) rfl rfl (by decide) (by kernel_rfl) ?_
    refine Al_pu (Pu_move (.inl rfl) (by conv => lhs; whnf)) rfl rfl (by decide) (by kernel_rfl) ?_
    refine Al_pu (Pu_subS ((s.size - t.length)) ((s.size - t.length + n)) rfl Try.underlying9 rfl ⟨_, rfl, by omega⟩ ⟨_, rfl, by omega⟩ ⟨by omega, by omega⟩) rfl rfl (by decide) (by kernel_rfl) ?_
    refine Al_pu (Pu_move (.inl rfl) (by conv => lhs; whnf)) rfl rfl (by decide) (by kernel_rfl) ?_
    refine Al_pu (Pu_move (.inr rfl) (by conv => lhs; whnf)) rfl rfl (by decide) (by kernel_rfl) ?_
    refine Al_pu (Pu_move (.inr rfl) (by conv => lhs; whnf)) rfl rfl (by decide) (by kernel_rfl) ?_
    refine Al_pu (Pu_move (.inr rfl) (by conv => lhs; whnf)) rfl rfl (by decide) (by kernel_rfl) ?_
    refine Al_nil ?_
    refine Aw_ret ?_
    exact ⟨_, _, _, rfl, Sub.str (by rw [e1]; exact V.cut_ba s t n k5 k4), Sub.num (by rw [e2]; simp; omega), Sub.bool (by rw [e3])⟩ -- ret 1
end Go.Proofs.Ytocgnmklgklfnaa

set_option linter.unusedSimpArgs false
set_option linter.unusedVariables false
namespace Go.Proofs.Ytocgnmklgklfnaa
open Go.RowKit A R
set_option maxRecDepth 100000 in
set_option maxHeartbeats 2000000 in
theorem must_false (x : Value) (w : World) : Calls Try.prog 46 #[x, .bool false] w fun e w' => (∃ pv, e = .panicked [{ v := .iface pv (.agg #[]), recovered := false }]) ∧ w' = w := by
  go_enter Try.func46, Try.ntmps46
  go_wp2
  exact ⟨rfl, ⟨_, rfl⟩, rfl⟩
theorem must_no (cs : List AV) : MCall Try.prog 46 68 cs [bv false] none := ⟨fun _ _ => by kernel_rfl, fun M w b xs vs hM hb hh hcs ha => by
  obtain ⟨rfl, _⟩ := A.all1 ha
  refine (must_false (.pointer (some ⟨b, 0, none⟩)) w).mono ?_
  rintro e w' ⟨hp, rfl⟩
  exact ⟨⟨rfl, rfl, rfl, Nat.le_refl _, fun _ _ _ => rfl⟩, xs, hh, hp, by rw [← hcs.1]; simp, fun x hx => by
    obtain ⟨j, hj, rfl⟩ := Array.getElem_of_mem hx
    have hj' : j < cs.length := by rw [← hcs.1]; simpa using hj
    exact (hcs.2 j cs[j] _ (by simp [hj']) (by simp [hj])).2⟩⟩
namespace V
abbrev pos (s : ByteArray) (r : List UInt8) : Nat := s.size - r.length
theorem pnum_no {s : ByteArray} {r : List UInt8} {most : Nat} (hr : r <:+ s.data.toList) (h : (gotB s (pos s r) && decide ((gotN s (pos s r) : Int) ≤ (most : Int))) = false) : pnum most r = none := by
  rcases got_cases s (pos s r) with ⟨h1, h2, h3, h4⟩ | ⟨n, t, h1, h2, h3, h4, h5, h6⟩
  · rw [drop_suf hr] at h4
    unfold pnum; rw [h4]
  · rw [drop_suf hr] at h4
    rw [h1, h2] at h
    simp only [Bool.true_and, decide_eq_false_iff_not] at h
    unfold pnum; rw [h4]; simp only
    rw [if_neg (by omega)]
theorem pnum_yes {s : ByteArray} {r : List UInt8} {most : Nat} (hr : r <:+ s.data.toList) (h : (gotB s (pos s r) && decide ((gotN s (pos s r) : Int) ≤ (most : Int))) = true) : ∃ n t, pnum most r = some (n, t) ∧ gotN s (pos s r) = n ∧ gotE s (pos s r) = pos s t ∧ t <:+ s.data.toList ∧ n ≤ most := by
  rcases got_cases s (pos s r) with ⟨h1, h2, h3, h4⟩ | ⟨n, t, h1, h2, h3, h4, h5, h6⟩
  · rw [h1] at h; cases h
  · rw [drop_suf hr] at h4
    rw [h1, h2] at h
    simp only [Bool.true_and, decide_eq_true_eq] at h
    refine ⟨n, t, ?_, h2, h3, h6, by omega⟩
    unfold pnum; rw [h4]; simp only
    rw [if_pos (by omega)]
theorem ptext_no {s : ByteArray} {r : List UInt8} {most : Nat} (hr : r <:+ s.data.toList) (h : rtB s (pos s r) most = false) : ptext most r = none := by
  unfold rtB at h
  rw [drop_suf hr] at h
  simpa using h
theorem ptext_yes {s : ByteArray} {r : List UInt8} {most : Nat} (hm : most < 18446744073709551616) (hr : r <:+ s.data.toList) (h : rtB s (pos s r) most = true) : ∃ x t, ptext most r = some (x, t) ∧ rtT s (pos s r) most = ba x ∧ rtE s (pos s r) most = pos s t ∧ t <:+ s.data.toList ∧ x.length ≤ most := by
  unfold rtB at h
  rw [drop_suf hr] at h
  obtain ⟨⟨x, t⟩, hx⟩ := Option.isSome_iff_exists.1 h
  obtain ⟨h1, h2⟩ := (ptext_iff hm).1 hx
  unfold rtT rtE
  rw [drop_suf hr, hx]
  exact ⟨x, t, rfl, rfl, rfl, suf_app (p := text (ba x)) (by rw [← h2]; exact hr), h1⟩
/-- What a reader's number leaves. -/
def numR (s : ByteArray) (most : Nat) (r : List UInt8) : Option (List AV × AV) := match pnum most r with
  | some (n, t) => some ([tv s, iv (pos s t)], iv n)
  | none => none
def textR (s : ByteArray) (most : Nat) (r : List UInt8) : Option (List AV × AV) := match ptext most r with
  | some (x, t) => some ([tv s, iv (pos s t)], tv (ba x))
  | none => none
end V
set_option maxRecDepth 100000 in
theorem snum_m (s : ByteArray) (r : List UInt8) (most : Nat) (hs : s.size ≤ 1000000) (hr : r <:+ s.data.toList) (hm : most ≤ 1000000) : MCall Try.prog 33 68 [tv s, iv (V.pos s r)] [uv most] (V.numR s most r) := by
  refine MCall_enter (fun _ _ => by kernel_rfl) Try.func33 rfl Try.ntmps33 (Reads.r1 Try.results33) (Nat.le_of_ble_eq_true rfl) (fun hok hokc M0 w0 hlent => ?_)
  refine Aw_seq ?_
  refine Aw_region ?_
  refine Al_pu (Pu_move (.inr rfl) (by conv => lhs; whnf)) rfl rfl (by decide) (by kernel_rfl) ?_
  refine Al_nil ?_
  refine Aw_seq ?_
  refine Aw_draw 16 (by kernel_rfl) (by kernel_rfl) ?_
  refine Dr_pu (Pu_move (.inl rfl) (by conv => lhs; whnf)) rfl rfl ?_
  refine Dr_pu (Pu_nilb rfl rfl) rfl rfl ?_
  refine Dr_pu (Pu_fieldb 0 rfl Try.underlying68 rfl rfl Try.sizeOf9 rfl) rfl rfl ?_
  refine Dr_pu (Pu_loadb rfl Try.isAgg9 rfl rfl rfl) rfl rfl ?_
  refine Dr_pu (Pu_move (.inl rfl) (by conv => lhs; whnf)) rfl rfl ?_
  refine Dr_pu (Pu_nilb rfl rfl) rfl rfl ?_
  refine Dr_pu (Pu_fieldb 1 rfl Try.underlying68 rfl rfl Try.sizeOf3 rfl) rfl rfl ?_
  refine Dr_pu (Pu_loadb rfl Try.isAgg3 rfl rfl rfl) rfl rfl ?_
  refine Dr_pu (Pu_call (vread_a s (V.pos s r) hs) rfl ⟨Sub.rfl, Sub.rfl, trivial⟩) rfl rfl ?_
  refine Dr_pu (Pu_move (.inl rfl) (by conv => lhs; whnf)) rfl rfl ?_
  refine Dr_pu (Pu_extract rfl rfl rfl) rfl rfl ?_
  refine Dr_pu (Pu_extract rfl rfl rfl) rfl rfl ?_
  refine Dr_pu (Pu_extract rfl rfl rfl) rfl rfl ?_
  refine Dr_pu (Pu_move (.inr rfl) (by conv => lhs; whnf)) rfl rfl ?_
  refine Dr_pu (Pu_move (.inr rfl) (by conv => lhs; whnf)) rfl rfl ?_
  refine Dr_pu (Pu_move (.inr rfl) (by conv => lhs; whnf)) rfl rfl ?_
  refine Dr_nil ?_
  refine Al_nil ?_
  refine Aw_seq ?_
  refine Aw_region ?_
  refine Al_pu (Pu_move (.inl rfl) (by conv => lhs; whnf)) rfl rfl (by decide) (by kernel_rfl) ?_
  refine Al_pu (Pu_move (.inl rfl) (by conv => lhs; whnf)) rfl rfl (by decide) (by kernel_rfl) ?_
  refine Al_pu (Pu_move (.inl rfl) (by conv => lhs; whnf)) rfl rfl (by decide) (by kernel_rfl) ?_
  refine Al_st (St_gd [] rfl rfl rfl rfl trivial (fun hg24 => by exact Pu_move (.inl rfl) (by conv => lhs; whnf))) rfl (by decide) (by kernel_rfl) (by intro j b oj dj h1 h2 h3; cases h1; cases h2; cases h3; decide) ?_
  refine Al_st (St_gd [] rfl rfl rfl rfl trivial (fun hg25 => by exact Pu_move (.inl rfl) (by conv => lhs; whnf))) rfl (by decide) (by kernel_rfl) (by intro j b oj dj h1 h2 h3; cases h1; cases h2; cases h3; decide) ?_
  refine Al_st (St_gd [24, 25] rfl rfl rfl rfl ⟨⟨_, rfl⟩, ⟨_, rfl⟩, trivial⟩ (fun hg26 => Pu_cmp rfl rfl rfl rfl)) rfl (by decide) (by kernel_rfl) (by intro j b oj dj h1 h2 h3; cases h1; cases h2; cases h3; decide) ?_
  refine Al_pu (Pu_and rfl rfl rfl rfl) rfl rfl (by decide) (by kernel_rfl) ?_
  rcases hb : (V.gotB s (V.pos s r) && decide ((V.gotN s (V.pos s r) : Int) ≤ (most : Int))) with _ | _
  · have hno := V.pnum_no hr hb
    exact Al_mpanic (must_no [tv s, iv (V.pos s r)]) rfl rfl (by kernel_rfl) rfl rfl ⟨Sub.rfl, trivial⟩ (fun pv => ⟨by unfold V.numR; rw [hno], ⟨pv, rfl⟩, _, rfl, by simp⟩)
  obtain ⟨n, t, k1, k2, k3, k4, k5⟩ := V.pnum_yes hr hb
  refine Al_mcall (must_m [tv s, iv (V.pos s r)]) rfl rfl rfl (by decide) (by kernel_rfl) rfl rfl ⟨Sub.rfl, trivial⟩ ?_
  refine Al_nil ?_
  refine Aw_seq ?_
  refine Aw_region ?_
  refine Al_pu (Pu_move (.inl rfl) (by conv => lhs; whnf)) rfl rfl (by decide) (by kernel_rfl) ?_
  refine Al_pu (Pu_move (.inl rfl) (by conv => lhs; whnf)) rfl rfl (by decide) (by kernel_rfl) ?_
  refine Al_pu (Pu_nilb rfl rfl) rfl rfl (by decide) (by kernel_rfl) ?_
  refine Al_pu (Pu_fieldb 1 rfl Try.underlying68 rfl rfl Try.sizeOf3 rfl) rfl rfl (by decide) (by kernel_rfl) ?_
  refine Al_store1 rfl rfl rfl (by kernel_rfl) Try.isAgg3 Try.sizeOf3 rfl rfl (Nat.le_of_ble_eq_true rfl) (by conv => lhs; whnf) rfl ?_
  refine Al_nil ?_
  refine Aw_seq ?_
  refine Aw_region ?_
  refine Al_pu (Pu_move (.inl rfl) (by conv => lhs; whnf)) rfl rfl (by decide) (by kernel_rfl) ?_
  refine Al_pu (Pu_conv rfl Try.underlying63 Try.underlying3 rfl (fun hv => i64_nat (by simp only [A.inI]; omega))) rfl rfl (by decide) (by kernel_rfl) ?_
  refine Al_pu (Pu_move (.inr rfl) (by conv => lhs; whnf)) rfl rfl (by decide) (by kernel_rfl) ?_
  refine Al_nil ?_
  refine Aw_ret ?_
  exact ⟨_, _, by unfold V.numR; rw [k1], Sub.num (by rw [k2]), by rw [← k3]; rfl⟩ -- ret 0
set_option maxRecDepth 100000 in
theorem stext_m (s : ByteArray) (r : List UInt8) (most : Nat) (hs : s.size ≤ 1000000) (hr : r <:+ s.data.toList) (hm : most ≤ 1000000) : MCall Try.prog 47 68 [tv s, iv (V.pos s r)] [iv most] (V.textR s most r) := by
  refine MCall_enter (fun _ _ => by kernel_rfl) Try.func47 rfl Try.ntmps47 (Reads.r1 Try.results47) (Nat.le_of_ble_eq_true rfl) (fun hok hokc M0 w0 hlent => ?_)
  refine Aw_seq ?_
  refine Aw_region ?_
  refine Al_pu (Pu_move (.inr rfl) (by conv => lhs; whnf)) rfl rfl (by decide) (by kernel_rfl) ?_
  refine Al_nil ?_
  refine Aw_seq ?_
  refine Aw_draw 17 (by kernel_rfl) (by kernel_rfl) ?_
  refine Dr_pu (Pu_move (.inl rfl) (by conv => lhs; whnf)) rfl rfl ?_
  refine Dr_pu (Pu_nilb rfl rfl) rfl rfl ?_
  refine Dr_pu (Pu_fieldb 0 rfl Try.underlying68 rfl rfl Try.sizeOf9 rfl) rfl rfl ?_
  refine Dr_pu (Pu_loadb rfl Try.isAgg9 rfl rfl rfl) rfl rfl ?_
  refine Dr_pu (Pu_move (.inl rfl) (by conv => lhs; whnf)) rfl rfl ?_
  refine Dr_pu (Pu_nilb rfl rfl) rfl rfl ?_
  refine Dr_pu (Pu_fieldb 1 rfl Try.underlying68 rfl rfl Try.sizeOf3 rfl) rfl rfl ?_
  refine Dr_pu (Pu_loadb rfl Try.isAgg3 rfl rfl rfl) rfl rfl ?_
  refine Dr_pu (Pu_move (.inl rfl) (by conv => lhs; whnf)) rfl rfl ?_
  refine Dr_pu (Pu_call (readtext_a s (V.pos s r) most hs hm) rfl ⟨Sub.rfl, Sub.rfl, Sub.rfl, trivial⟩) rfl rfl ?_
  refine Dr_pu (Pu_move (.inl rfl) (by conv => lhs; whnf)) rfl rfl ?_
  refine Dr_pu (Pu_extract rfl rfl rfl) rfl rfl ?_
  refine Dr_pu (Pu_extract rfl rfl rfl) rfl rfl ?_
  refine Dr_pu (Pu_extract rfl rfl rfl) rfl rfl ?_
  refine Dr_pu (Pu_move (.inr rfl) (by conv => lhs; whnf)) rfl rfl ?_
  refine Dr_pu (Pu_move (.inr rfl) (by conv => lhs; whnf)) rfl rfl ?_
  refine Dr_pu (Pu_move (.inr rfl) (by conv => lhs; whnf)) rfl rfl ?_
  refine Dr_nil ?_
  refine Al_nil ?_
  refine Aw_seq ?_
  refine Aw_region ?_
  refine Al_pu (Pu_move (.inl rfl) (by conv => lhs; whnf)) rfl rfl (by decide) (by kernel_rfl) ?_
  refine Al_pu (Pu_move (.inl rfl) (by conv => lhs; whnf)) rfl rfl (by decide) (by kernel_rfl) ?_
  rcases hb : V.rtB s (V.pos s r) most with _ | _
  · have hno := V.ptext_no hr hb
    exact Al_mpanic (must_no [tv s, iv (V.pos s r)]) rfl rfl (by kernel_rfl) rfl rfl ⟨Sub.rfl, trivial⟩ (fun pv => ⟨by unfold V.textR; rw [hno], ⟨pv, rfl⟩, _, rfl, by simp⟩)
  obtain ⟨x, t, k1, k2, k3, k4, k5⟩ := V.ptext_yes (by omega) hr hb
  refine Al_mcall (must_m [tv s, iv (V.pos s r)]) rfl rfl rfl (by decide) (by kernel_rfl) rfl rfl ⟨Sub.rfl, trivial⟩ ?_
  refine Al_nil ?_
  refine Aw_seq ?_
  refine Aw_region ?_
  refine Al_pu (Pu_move (.inl rfl) (by conv => lhs; whnf)) rfl rfl (by decide) (by kernel_rfl) ?_
  refine Al_pu (Pu_move (.inl rfl) (by conv => lhs; whnf)) rfl rfl (by decide) (by kernel_rfl) ?_
  refine Al_pu (Pu_nilb rfl rfl) rfl rfl (by decide) (by kernel_rfl) ?_
  refine Al_pu (Pu_fieldb 1 rfl Try.underlying68 rfl rfl Try.sizeOf3 rfl) rfl rfl (by decide) (by kernel_rfl) ?_
  refine Al_store1 rfl rfl rfl (by kernel_rfl) Try.isAgg3 Try.sizeOf3 rfl rfl (Nat.le_of_ble_eq_true rfl) (by conv => lhs; whnf) rfl ?_
  refine Al_nil ?_
  refine Aw_seq ?_
  refine Aw_region ?_
  refine Al_pu (Pu_move (.inl rfl) (by conv => lhs; whnf)) rfl rfl (by decide) (by kernel_rfl) ?_
  refine Al_pu (Pu_move (.inr rfl) (by conv => lhs; whnf)) rfl rfl (by decide) (by kernel_rfl) ?_
  refine Al_nil ?_
  refine Aw_ret ?_
  exact ⟨_, _, by unfold V.textR; rw [k1], Sub.str k2, by rw [← k3]; rfl⟩ -- ret 0
end Go.Proofs.Ytocgnmklgklfnaa

set_option linter.unusedSimpArgs false
set_option linter.unusedVariables false
namespace Go.Proofs.Ytocgnmklgklfnaa.A
open Go Go.RowKit
/-- A method's contract, told as a call that is lent one object. -/
theorem MCall.g {P : Program} {f : FuncId} {T : TypeId} {cs cs' aa : List AV} {res : AV} (h : MCall P f T cs aa (some (cs', res))) : GCall P f (.bx 1000 0 0 :: aa.map .d) [(1000, .box T (cs.map .d))] (some ([(1000, .box T (cs'.map .d))], .d res)) := ⟨h.1, fun M w ρ vs hM hbnd ha hobs hfps hap => by
  obtain ⟨y, hy, hO⟩ := hobs (1000, .box T (cs.map .d)) (by simp)
  have hO' := hO
  obtain ⟨b, xs, rfl, _, hh, hcs⟩ := hO.box_cells
  have hb : fps ρ [(1000, .box T (cs.map .d))] b := ⟨_, by simp, _, hy, rfl⟩
  have hl := ha.1
  match vs, hl with
  | v :: vs, hl =>
    obtain ⟨z, b', h1, h2, rfl⟩ := ha.2 0 _ v rfl rfl
    rw [hy] at h1; cases h1
    simp only [blk, Option.some.injEq] at h2
    subst h2
    have hall : AllRep M w aa vs := ⟨by simpa using hl, fun j a x h1 h2 => ha.2 (j + 1) (.d a) x (by simp [h1]) (by simpa using h2)⟩
    refine (h.2 M w b xs vs hM (hfps b hb) hh hcs hall).mono fun e w' ⟨hx, xs', hh', v, he, hc', hr⟩ => ⟨⟨hx.os, hx.tape, hx.output, hx.size, fun c hc hn => hx.block c hc fun e => hn (by rw [show c = b from e]; exact hb)⟩, v, he, ρ, hbnd, fun _ _ => rfl, fun p hp => ?_, fun p hp q hq _ _ _ _ _ _ _ => ?_, ?_⟩
    · simp only [List.mem_singleton] at hp
      subst hp
      exact ⟨_, hy, ORep.of_cells (.inr hb) hh' (hc'.mono (Known.sub fun c hc => by
        rcases hc with hc | ⟨q, hq, z, h3, h4⟩
        · exact hc
        · simp only [List.mem_singleton] at hq
          subst hq
          rw [hy] at h3; cases h3
          simp only [fpO, blk, Option.some.injEq] at h4
          subst h4; exact hfps _ hb))⟩
    · simp only [List.mem_singleton] at hp hq
      rw [hp, hq]
    · exact hr.mono (Known.sub fun c hc => by
        rcases hc with hc | ⟨q, hq, z, h3, h4⟩
        · exact hc
        · simp only [List.mem_singleton] at hq
          subst hq
          rw [hy] at h3; cases h3
          simp only [fpO, blk, Option.some.injEq] at h4
          subst h4; exact hfps _ hb)⟩
end Go.Proofs.Ytocgnmklgklfnaa.A
namespace Go.Proofs.Ytocgnmklgklfnaa
open Go.RowKit A R
namespace V
/-- The row's reader: where it stands, whether something was bad. -/
abbrev WS := Nat × Bool
def wcs (s : ByteArray) (p : WS) : List AV := [tv s, iv p.1, bv p.2]
def wokN (s : ByteArray) (most : Nat) (p : WS) : Bool := gotB s p.1 && decide ((gotN s p.1 : Int) ≤ (most : Int))
def wnumS (s : ByteArray) (most : Nat) (p : WS) : WS := (gotE s p.1, p.2 || !wokN s most p)
def wnumV (s : ByteArray) (most : Nat) (p : WS) : Nat := if (wnumS s most p).2 then 0 else gotN s p.1
def wtextS (s : ByteArray) (most : Nat) (p : WS) : WS := (rtE s p.1 most, p.2 || !rtB s p.1 most)
def wmany (s : ByteArray) (most : Nat) : Nat → WS → List Nat × WS
  | 0, p => ([], p)
  | k + 1, p => ((wmany s most k p).1 ++ [wnumV s most (wmany s most k p).2], wnumS s most (wmany s most k p).2)
theorem wmany_len (s : ByteArray) (most : Nat) (p : WS) : ∀ k, (wmany s most k p).1.length = k
  | 0 => rfl
  | k + 1 => by simp [wmany, wmany_len s most p k]
theorem gotN_lt (s : ByteArray) (at_ : Nat) : gotN s at_ < 18446744073709551616 := by
  rcases got_cases s at_ with ⟨_, h, _⟩ | ⟨n, t, _, h, _, _, h2, _⟩ <;> omega
theorem gotE_le (s : ByteArray) (at_ : Nat) : gotE s at_ ≤ s.size := by
  rcases got_cases s at_ with ⟨_, _, h, _⟩ | ⟨n, t, _, _, h, _⟩ <;> omega
end V
set_option maxRecDepth 100000 in
theorem wmoves_m (s : ByteArray) (p : V.WS) (e : Nat) (ok : Bool) : MCall Try.prog 66 105 (V.wcs s p) [iv e, bv ok] (some (V.wcs s (e, p.2 || !ok), .tup [])) := by
  refine MCall_enter (fun _ _ => by kernel_rfl) Try.func66 rfl Try.ntmps66 (Reads.r0 Try.results66) (Nat.le_of_ble_eq_true rfl) (fun hok hokc M0 w0 hlent => ?_)
  refine Aw_seq ?_
  refine Aw_region ?_
  refine Al_pu (Pu_move (.inl rfl) (by conv => lhs; whnf)) rfl rfl (by decide) (by kernel_rfl) ?_
  refine Al_pu (Pu_move (.inl rfl) (by conv => lhs; whnf)) rfl rfl (by decide) (by kernel_rfl) ?_
  refine Al_pu (Pu_nilb rfl rfl) rfl rfl (by decide) (by kernel_rfl) ?_
  refine Al_pu (Pu_fieldb 1 rfl Try.underlying105 rfl rfl Try.sizeOf3 rfl) rfl rfl (by decide) (by kernel_rfl) ?_
  refine Al_store1 rfl rfl rfl (by kernel_rfl) Try.isAgg3 Try.sizeOf3 rfl rfl (Nat.le_of_ble_eq_true rfl) (by conv => lhs; whnf) rfl ?_
  refine Al_nil ?_
  refine Aw_region ?_
  refine Al_pu (Pu_move (.inl rfl) (by conv => lhs; whnf)) rfl rfl (by decide) (by kernel_rfl) ?_
  refine Al_pu (Pu_move (.inl rfl) (by conv => lhs; whnf)) rfl rfl (by decide) (by kernel_rfl) ?_
  refine Al_pu (Pu_nilb rfl rfl) rfl rfl (by decide) (by kernel_rfl) ?_
  refine Al_pu (Pu_fieldb 2 rfl Try.underlying105 rfl rfl Try.sizeOf4 rfl) rfl rfl (by decide) (by kernel_rfl) ?_
  refine Al_pu (Pu_loadb rfl Try.isAgg4 rfl rfl rfl) rfl rfl (by decide) (by kernel_rfl) ?_
  refine Al_pu (Pu_move (.inl rfl) (by conv => lhs; whnf)) rfl rfl (by decide) (by kernel_rfl) ?_
  refine Al_st (St_gd [] rfl rfl rfl rfl trivial (fun hg16 => by exact Pu_move (.inl rfl) (by conv => lhs; whnf))) rfl (by decide) (by kernel_rfl) (by intro j b oj dj h1 h2 h3; cases h1; cases h2; cases h3; decide) ?_
  refine Al_st (St_gd [16] rfl rfl rfl rfl ⟨⟨_, rfl⟩, trivial⟩ (fun hg17 => Pu_not rfl rfl)) rfl (by decide) (by kernel_rfl) (by intro j b oj dj h1 h2 h3; cases h1; cases h2; cases h3; decide) ?_
  refine Al_pu (Pu_or rfl rfl rfl rfl) rfl rfl (by decide) (by kernel_rfl) ?_
  refine Al_pu (Pu_nilb rfl rfl) rfl rfl (by decide) (by kernel_rfl) ?_
  refine Al_pu (Pu_fieldb 2 rfl Try.underlying105 rfl rfl Try.sizeOf4 rfl) rfl rfl (by decide) (by kernel_rfl) ?_
  refine Al_store1 rfl rfl rfl (by kernel_rfl) Try.isAgg4 Try.sizeOf4 rfl rfl (Nat.le_of_ble_eq_true rfl) (by conv => lhs; whnf) rfl ?_
  refine Al_nil ?_
  exact ⟨_, _, rfl, rfl, rfl⟩ -- ret 0
set_option maxRecDepth 100000 in
theorem wnum_m (s : ByteArray) (p : V.WS) (most : Nat) (hs : s.size ≤ 1000000) (hm : most ≤ 1000000) : MCall Try.prog 59 105 (V.wcs s p) [uv most] (some (V.wcs s (V.wnumS s most p), iv (V.wnumV s most p : Nat))) := by
  refine MCall_enter (fun _ _ => by kernel_rfl) Try.func59 rfl Try.ntmps59 (Reads.r1 Try.results59) (Nat.le_of_ble_eq_true rfl) (fun hok hokc M0 w0 hlent => ?_)
  have hN := V.gotN_lt s p.1
  refine Aw_seq ?_
  refine Aw_region ?_
  refine Al_pu (Pu_move (.inr rfl) (by conv => lhs; whnf)) rfl rfl (by decide) (by kernel_rfl) ?_
  refine Al_nil ?_
  refine Aw_seq ?_
  refine Aw_draw 16 (by kernel_rfl) (by kernel_rfl) ?_
  refine Dr_pu (Pu_move (.inl rfl) (by conv => lhs; whnf)) rfl rfl ?_
  refine Dr_pu (Pu_nilb rfl rfl) rfl rfl ?_
  refine Dr_pu (Pu_fieldb 0 rfl Try.underlying105 rfl rfl Try.sizeOf9 rfl) rfl rfl ?_
  refine Dr_pu (Pu_loadb rfl Try.isAgg9 rfl rfl rfl) rfl rfl ?_
  refine Dr_pu (Pu_move (.inl rfl) (by conv => lhs; whnf)) rfl rfl ?_
  refine Dr_pu (Pu_nilb rfl rfl) rfl rfl ?_
  refine Dr_pu (Pu_fieldb 1 rfl Try.underlying105 rfl rfl Try.sizeOf3 rfl) rfl rfl ?_
  refine Dr_pu (Pu_loadb rfl Try.isAgg3 rfl rfl rfl) rfl rfl ?_
  refine Dr_pu (Pu_call (vread_a s p.1 hs) rfl ⟨Sub.rfl, Sub.rfl, trivial⟩) rfl rfl ?_
  refine Dr_pu (Pu_move (.inl rfl) (by conv => lhs; whnf)) rfl rfl ?_
  refine Dr_pu (Pu_extract rfl rfl rfl) rfl rfl ?_
  refine Dr_pu (Pu_extract rfl rfl rfl) rfl rfl ?_
  refine Dr_pu (Pu_extract rfl rfl rfl) rfl rfl ?_
  refine Dr_pu (Pu_move (.inr rfl) (by conv => lhs; whnf)) rfl rfl ?_
  refine Dr_pu (Pu_move (.inr rfl) (by conv => lhs; whnf)) rfl rfl ?_
  refine Dr_pu (Pu_move (.inr rfl) (by conv => lhs; whnf)) rfl rfl ?_
  refine Dr_nil ?_
  refine Al_nil ?_
  refine Aw_seq ?_
  refine Aw_region ?_
  refine Al_pu (Pu_move (.inl rfl) (by conv => lhs; whnf)) rfl rfl (by decide) (by kernel_rfl) ?_
  refine Al_pu (Pu_move (.inl rfl) (by conv => lhs; whnf)) rfl rfl (by decide) (by kernel_rfl) ?_
  refine Al_pu (Pu_move (.inl rfl) (by conv => lhs; whnf)) rfl rfl (by decide) (by kernel_rfl) ?_
  refine Al_pu (Pu_move (.inl rfl) (by conv => lhs; whnf)) rfl rfl (by decide) (by kernel_rfl) ?_
  refine Al_st (St_gd [] rfl rfl rfl rfl trivial (fun hg25 => by exact Pu_move (.inl rfl) (by conv => lhs; whnf))) rfl (by decide) (by kernel_rfl) (by intro j b oj dj h1 h2 h3; cases h1; cases h2; cases h3; decide) ?_
  refine Al_st (St_gd [] rfl rfl rfl rfl trivial (fun hg26 => by exact Pu_move (.inl rfl) (by conv => lhs; whnf))) rfl (by decide) (by kernel_rfl) (by intro j b oj dj h1 h2 h3; cases h1; cases h2; cases h3; decide) ?_
  refine Al_st (St_gd [25, 26] rfl rfl rfl rfl ⟨⟨_, rfl⟩, ⟨_, rfl⟩, trivial⟩ (fun hg27 => Pu_cmp rfl rfl rfl rfl)) rfl (by decide) (by kernel_rfl) (by intro j b oj dj h1 h2 h3; cases h1; cases h2; cases h3; decide) ?_
  refine Al_pu (Pu_and rfl rfl rfl rfl) rfl rfl (by decide) (by kernel_rfl) ?_
  refine Al_mcall (wmoves_m s p (V.gotE s p.1) (V.wokN s most p)) rfl rfl rfl (by decide) (by kernel_rfl) rfl rfl ⟨Sub.rfl, Sub.rfl, trivial⟩ ?_
  refine Al_nil ?_
  refine Aw_seq ?_
  refine Aw_seq ?_
  refine Aw_region ?_
  refine Al_pu (Pu_move (.inl rfl) (by conv => lhs; whnf)) rfl rfl (by decide) (by kernel_rfl) ?_
  refine Al_pu (Pu_nilb rfl rfl) rfl rfl (by decide) (by kernel_rfl) ?_
  refine Al_pu (Pu_fieldb 2 rfl Try.underlying105 rfl rfl Try.sizeOf4 rfl) rfl rfl (by decide) (by kernel_rfl) ?_
  refine Al_pu (Pu_loadb rfl Try.isAgg4 rfl rfl rfl) rfl rfl (by decide) (by kernel_rfl) ?_
  refine Al_nil ?_
  refine Aw_cond rfl (fun h33 => ?_) (fun h33 => ?_)
  · skip
    have hb : (V.wnumS s most p).2 = true := h33
    refine Aw_seq ?_
    refine Aw_region ?_
    refine Al_pu (Pu_move (.inr rfl) (by conv => lhs; whnf)) rfl rfl (by decide) (by kernel_rfl) ?_
    refine Al_nil ?_
    refine Aw_ret ?_
    exact ⟨_, _, rfl, Sub.num (by unfold V.wnumV; rw [if_pos hb]; rfl), rfl⟩ -- ret 0
  · skip
    have hb : (V.wnumS s most p).2 = false := h33
    have hle : V.gotN s p.1 ≤ most := by
      have h1 : (p.2 || !V.wokN s most p) = false := hb
      simp only [Bool.or_eq_false_iff, Bool.not_eq_false'] at h1
      have h2 := h1.2
      unfold V.wokN at h2
      simp only [Bool.and_eq_true, decide_eq_true_eq] at h2
      omega
    refine Aw_skip ?_
    refine Aw_seq ?_
    refine Aw_region ?_
    refine Al_pu (Pu_move (.inl rfl) (by conv => lhs; whnf)) rfl rfl (by decide) (by kernel_rfl) ?_
    refine Al_pu (Pu_conv rfl Try.underlying63 Try.underlying3 rfl (fun hv => i64_nat (by simp only [A.inI]; omega))) rfl rfl (by decide) (by kernel_rfl) ?_
    refine Al_pu (Pu_move (.inr rfl) (by conv => lhs; whnf)) rfl rfl (by decide) (by kernel_rfl) ?_
    refine Al_nil ?_
    refine Aw_ret ?_
    exact ⟨_, _, rfl, Sub.num (by unfold V.wnumV; rw [if_neg (by rw [hb]; simp)]), rfl⟩ -- ret 1
set_option maxRecDepth 100000 in
theorem wtext_m (s : ByteArray) (p : V.WS) (most : Nat) (hs : s.size ≤ 1000000) (hm : most ≤ 1000000) : MCall Try.prog 60 105 (V.wcs s p) [iv most] (some (V.wcs s (V.wtextS s most p), tv (V.rtT s p.1 most))) := by
  refine MCall_enter (fun _ _ => by kernel_rfl) Try.func60 rfl Try.ntmps60 (Reads.r1 Try.results60) (Nat.le_of_ble_eq_true rfl) (fun hok hokc M0 w0 hlent => ?_)
  refine Aw_seq ?_
  refine Aw_region ?_
  refine Al_pu (Pu_move (.inr rfl) (by conv => lhs; whnf)) rfl rfl (by decide) (by kernel_rfl) ?_
  refine Al_nil ?_
  refine Aw_seq ?_
  refine Aw_draw 17 (by kernel_rfl) (by kernel_rfl) ?_
  refine Dr_pu (Pu_move (.inl rfl) (by conv => lhs; whnf)) rfl rfl ?_
  refine Dr_pu (Pu_nilb rfl rfl) rfl rfl ?_
  refine Dr_pu (Pu_fieldb 0 rfl Try.underlying105 rfl rfl Try.sizeOf9 rfl) rfl rfl ?_
  refine Dr_pu (Pu_loadb rfl Try.isAgg9 rfl rfl rfl) rfl rfl ?_
  refine Dr_pu (Pu_move (.inl rfl) (by conv => lhs; whnf)) rfl rfl ?_
  refine Dr_pu (Pu_nilb rfl rfl) rfl rfl ?_
  refine Dr_pu (Pu_fieldb 1 rfl Try.underlying105 rfl rfl Try.sizeOf3 rfl) rfl rfl ?_
  refine Dr_pu (Pu_loadb rfl Try.isAgg3 rfl rfl rfl) rfl rfl ?_
  refine Dr_pu (Pu_move (.inl rfl) (by conv => lhs; whnf)) rfl rfl ?_
  refine Dr_pu (Pu_call (readtext_a s p.1 most hs hm) rfl ⟨Sub.rfl, Sub.rfl, Sub.rfl, trivial⟩) rfl rfl ?_
  refine Dr_pu (Pu_move (.inl rfl) (by conv => lhs; whnf)) rfl rfl ?_
  refine Dr_pu (Pu_extract rfl rfl rfl) rfl rfl ?_
  refine Dr_pu (Pu_extract rfl rfl rfl) rfl rfl ?_
  refine Dr_pu (Pu_extract rfl rfl rfl) rfl rfl ?_
  refine Dr_pu (Pu_move (.inr rfl) (by conv => lhs; whnf)) rfl rfl ?_
  refine Dr_pu (Pu_move (.inr rfl) (by conv => lhs; whnf)) rfl rfl ?_
  refine Dr_pu (Pu_move (.inr rfl) (by conv => lhs; whnf)) rfl rfl ?_
  refine Dr_nil ?_
  refine Al_nil ?_
  refine Aw_seq ?_
  refine Aw_region ?_
  refine Al_pu (Pu_move (.inl rfl) (by conv => lhs; whnf)) rfl rfl (by decide) (by kernel_rfl) ?_
  refine Al_pu (Pu_move (.inl rfl) (by conv => lhs; whnf)) rfl rfl (by decide) (by kernel_rfl) ?_
  refine Al_pu (Pu_move (.inl rfl) (by conv => lhs; whnf)) rfl rfl (by decide) (by kernel_rfl) ?_
  refine Al_mcall (wmoves_m s p (V.rtE s p.1 most) (V.rtB s p.1 most)) rfl rfl rfl (by decide) (by kernel_rfl) rfl rfl ⟨Sub.rfl, Sub.rfl, trivial⟩ ?_
  refine Al_nil ?_
  refine Aw_seq ?_
  refine Aw_region ?_
  refine Al_pu (Pu_move (.inl rfl) (by conv => lhs; whnf)) rfl rfl (by decide) (by kernel_rfl) ?_
  refine Al_pu (Pu_move (.inr rfl) (by conv => lhs; whnf)) rfl rfl (by decide) (by kernel_rfl) ?_
  refine Al_nil ?_
  refine Aw_ret ?_
  exact ⟨_, _, rfl, Sub.rfl, rfl⟩ -- ret 0
set_option maxRecDepth 100000 in
theorem wdone_m (s : ByteArray) (p : V.WS) : MCall Try.prog 62 105 (V.wcs s p) [] (some (V.wcs s p, bv (!p.2 && decide ((p.1 : Int) = (s.size : Int))))) := by
  refine MCall_enter (fun _ _ => by kernel_rfl) Try.func62 rfl Try.ntmps62 (Reads.r1 Try.results62) (Nat.le_of_ble_eq_true rfl) (fun hok hokc M0 w0 hlent => ?_)
  refine Aw_seq ?_
  refine Aw_region ?_
  refine Al_pu (Pu_move (.inr rfl) (by conv => lhs; whnf)) rfl rfl (by decide) (by kernel_rfl) ?_
  refine Al_nil ?_
  refine Aw_seq ?_
  refine Aw_draw 17 (by kernel_rfl) (by kernel_rfl) ?_
  refine Dr_pu (Pu_move (.inl rfl) (by conv => lhs; whnf)) rfl rfl ?_
  refine Dr_pu (Pu_nilb rfl rfl) rfl rfl ?_
  refine Dr_pu (Pu_fieldb 2 rfl Try.underlying105 rfl rfl Try.sizeOf4 rfl) rfl rfl ?_
  refine Dr_pu (Pu_loadb rfl Try.isAgg4 rfl rfl rfl) rfl rfl ?_
  refine Dr_pu (Pu_not rfl rfl) rfl rfl ?_
  refine Dr_pu (Pu_move (.inl rfl) (by conv => lhs; whnf)) rfl rfl ?_
  refine Dr_st (St_gd [] rfl rfl rfl rfl trivial (fun hg9 => by exact Pu_move (.inl rfl) (by conv => lhs; whnf))) rfl ?_
  refine Dr_st (St_gd [9] rfl rfl rfl rfl ⟨⟨_, rfl⟩, trivial⟩ (fun hg10 => Pu_nilb rfl rfl)) rfl ?_
  refine Dr_st (St_gd [10] rfl rfl rfl rfl ⟨⟨_, rfl⟩, trivial⟩ (fun hg11 => Pu_fieldb 1 rfl Try.underlying105 rfl rfl Try.sizeOf3 rfl)) rfl ?_
  refine Dr_st (St_gd [11] rfl rfl rfl rfl ⟨⟨_, rfl⟩, trivial⟩ (fun hg12 => Pu_loadb rfl Try.isAgg3 rfl rfl rfl)) rfl ?_
  refine Dr_st (St_gd [] rfl rfl rfl rfl trivial (fun hg13 => by exact Pu_move (.inl rfl) (by conv => lhs; whnf))) rfl ?_
  refine Dr_st (St_gd [13] rfl rfl rfl rfl ⟨⟨_, rfl⟩, trivial⟩ (fun hg14 => Pu_nilb rfl rfl)) rfl ?_
  refine Dr_st (St_gd [14] rfl rfl rfl rfl ⟨⟨_, rfl⟩, trivial⟩ (fun hg15 => Pu_fieldb 0 rfl Try.underlying105 rfl rfl Try.sizeOf9 rfl)) rfl ?_
  refine Dr_st (St_gd [15] rfl rfl rfl rfl ⟨⟨_, rfl⟩, trivial⟩ (fun hg16 => Pu_loadb rfl Try.isAgg9 rfl rfl rfl)) rfl ?_
  refine Dr_st (St_gd [16] rfl rfl rfl rfl ⟨⟨_, rfl⟩, trivial⟩ (fun hg17 => Pu_lenS rfl Try.underlying9 rfl)) rfl ?_
  refine Dr_st (St_gd [12, 17] rfl rfl rfl rfl ⟨⟨_, rfl⟩, ⟨_, rfl⟩, trivial⟩ (fun hg18 => Pu_cmp rfl rfl rfl rfl)) rfl ?_
  refine Dr_pu (Pu_and rfl rfl rfl rfl) rfl rfl ?_
  refine Dr_nil ?_
  refine Al_pu (Pu_move (.inr rfl) (by conv => lhs; whnf)) rfl rfl (by decide) (by kernel_rfl) ?_
  refine Al_nil ?_
  refine Aw_ret ?_
  exact ⟨_, _, rfl, Sub.rfl, rfl⟩ -- ret 0
set_option maxRecDepth 100000 in
theorem wmany_g (s : ByteArray) (p : V.WS) (n most : Nat) (hs : s.size ≤ 1000000) (hm : most ≤ 1000000) (hn : n ≤ 1000000) : GCall Try.prog 61 [.d (iv n), .d (uv most), .fnb 59 [.bx 1000 0 0] []] [(1000, .box 105 ((V.wcs s p).map .d))]
    (some ([(1000, .box 105 ((V.wcs s (V.wmany s most n p).2).map .d)), (1001, .arr 3 1 ((V.wmany s most n p).1.map fun x => [iv (x : Nat)]))], .ow 1001 0)) := by
  refine GCall_enter (fun _ _ => by kernel_rfl) Try.func61 rfl Try.ntmps61 (ReadsS.r1 Try.results61) (Nat.le_of_ble_eq_true rfl) (fun hok hokB M0 w0 => ?_)
  refine Aw_seq ?_
  refine Aw_region ?_
  refine Al_pu (Pu_move (.inr rfl) (by conv => lhs; whnf)) rfl rfl (by decide) (by kernel_rfl) ?_
  refine Al_nil ?_
  refine Aw_seq ?_
  refine Aw_region ?_
  refine Al_pu (Pu_move (.inr rfl) (by conv => lhs; whnf)) rfl rfl (by decide) (by kernel_rfl) ?_
  refine Al_nil ?_
  refine Aw_seq ?_
  refine Aw_seq ?_
  refine Aw_region ?_
  refine Al_pu (Pu_move (.inl rfl) (by conv => lhs; whnf)) rfl rfl (by decide) (by kernel_rfl) ?_
  refine Al_pu (Pu_move (.inl rfl) (by conv => lhs; whnf)) rfl rfl (by decide) (by kernel_rfl) ?_
  refine Al_nil ?_
  refine Aw_block ?_
  refine Aw_own (j := 7) (k := 7) (T := 3) (n := 1) rfl (fun g0 => ?_)
  refine Aw_loopk (ι := Nat × Nat) [1, 2, 8] [] (fun (i, g) => [(9, .d (iv i)), (7, .ow 7 g)]) (fun (i, g) => [(7, g, .arr 3 1 ((V.wmany s most i p).1.map fun x => [iv (x : Nat)])), (1000, 0, .box 105 ((V.wcs s (V.wmany s most i p).2).map .d))]) (fun (i, g) => i ≤ n) (fun (i, g) => n - i) ((0, g0)) (Nat.zero_le _) ⟨Sub.rfl, Sub.rfl, trivial⟩ ⟨rfl, rfl, trivial⟩ ?_
  rintro ⟨i, g⟩ hk0
  refine Aw_seq ?_
  refine Aw_region ?_
  refine Al_pu (Pu_cmp rfl rfl rfl rfl) rfl rfl (by decide) (by kernel_rfl) ?_
  refine Al_nil ?_
  refine Aw_seq ?_
  refine Aw_cond rfl (fun h10 => ?_) (fun h10 => ?_)
  · (try simp only [decide_eq_true_eq, decide_eq_false_iff_not, Bool.and_eq_true, Bool.or_eq_true, Bool.and_eq_false_iff, Bool.or_eq_false_iff, Bool.not_eq_true', Bool.not_eq_false', beq_iff_eq, Bool.not_eq_eq_eq_not, Bool.not_true, Bool.not_false, List.length_map, Bool.and_true, Bool.and_false, Bool.false_and, Bool.true_and, Bool.or_false, Bool.false_or] at h10)
    have hwl := V.wmany_len s most p i
    refine Aw_skip ?_
    refine Aw_seq ?_
    refine Aw_block ?_
    refine Aw_region ?_
    refine Al_pu (Pu_move (.inl rfl) (by conv => lhs; whnf)) rfl rfl (by decide) (by kernel_rfl) ?_
    refine Al_pu (Pu_move (.inl rfl) (by conv => lhs; whnf)) rfl rfl (by decide) (by kernel_rfl) ?_
    refine Al_pu (Pu_move (.inl rfl) (by conv => lhs; whnf)) rfl rfl (by decide) (by kernel_rfl) ?_
    refine Al_gcallv [(1000, 1000, 0)] [] (wnum_m s (V.wmany s most i p).2 most hs hm).g rfl rfl rfl (by decide) (by kernel_rfl) rfl ⟨rfl, trivial⟩ rfl [.d (uv most)] rfl ⟨Sub.rfl, trivial⟩ (fun g14 => ?_)
    refine Al_pu (Pu_slice1 rfl Try.underlying26 Try.sizeOf3 Try.zeroValue3 rfl (by decide) (by decide) (by kernel_rfl) rfl rfl rfl) rfl rfl (by decide) (by kernel_rfl) ?_
    refine Al_append rfl rfl rfl (by decide) (by kernel_rfl) elem26 (by decide) Try.sizeOf3 rfl rfl rfl (by simp; omega) (by decide) (fun g16 => ?_)
    refine Al_pu (Pu_move (.inr rfl) (by conv => lhs; whnf)) rfl rfl (by decide) (by kernel_rfl) ?_
    refine Al_nil ?_
    refine Aw_region ?_
    refine Al_pu (Pu_add rfl rfl rfl (fun h1 h2 => by simp only [A.inI, A.maxI] at *; omega)) rfl rfl (by decide) (by kernel_rfl) ?_
    refine Al_pu (Pu_move (.inl rfl) (by conv => lhs; whnf)) rfl rfl (by decide) (by kernel_rfl) ?_
    refine Al_nil ?_
    exact ⟨(i + 1, g16), by omega, by simp only []; omega, Le.ov ⟨Sub.num (by omega), Sub.rfl, trivial⟩ ⟨Sub.rfl, Sub.rfl, Sub.rfl, trivial⟩ ⟨obeq (by simp [V.wmany, A.cellsA]), rfl, trivial⟩ trivial⟩ -- loop 0 next.0
  · (try simp only [decide_eq_true_eq, decide_eq_false_iff_not, Bool.and_eq_true, Bool.or_eq_true, Bool.and_eq_false_iff, Bool.or_eq_false_iff, Bool.not_eq_true', Bool.not_eq_false', beq_iff_eq, Bool.not_eq_eq_eq_not, Bool.not_true, Bool.not_false, List.length_map, Bool.and_true, Bool.and_false, Bool.false_and, Bool.true_and, Bool.or_false, Bool.false_or] at h10)
    obtain rfl : i = n := by omega
    refine Aw_exit ?_
    refine Aw_seq ?_
    refine Aw_region ?_
    refine Al_pu (Pu_move (.inl rfl) (by conv => lhs; whnf)) rfl rfl (by decide) (by kernel_rfl) ?_
    refine Al_pu (Pu_move (.inr rfl) (by conv => lhs; whnf)) rfl rfl (by decide) (by kernel_rfl) ?_
    refine Al_nil ?_
    refine Aw_ret ?_
    exact ⟨_, _, [(1001, 7, g)], rfl, Sub.rfl, ⟨rfl, rfl, trivial⟩, rfl⟩ -- ret 0
end Go.Proofs.Ytocgnmklgklfnaa
