/- Numbers read back; plain. -/
import Derived.Test.YtocgnmklgklfnaaVPlain
set_option linter.unusedSimpArgs false
set_option linter.unusedVariables false
namespace Go.Proofs.Ytocgnmklgklfnaa
namespace V
/-- The number whose bytes stand first, and what stands behind it. -/
def rd : List UInt8 → Option (Nat × List UInt8)
  | [] => none
  | c :: r => if c.toNat < 128 then some (c.toNat, r) else match rd r with
    | some (m, t) => if m = 0 then none else some (c.toNat - 128 + 128 * m, t)
    | none => none
theorem rd_some : ∀ (l : List UInt8) (n : Nat) (r : List UInt8), rd l = some (n, r) → l = num n ++ r
  | [], n, r, h => by simp [rd] at h
  | c :: t, n, r, h => by
    rw [rd] at h
    split at h
    · rename_i hc
      simp only [Option.some.injEq, Prod.mk.injEq] at h
      obtain ⟨rfl, rfl⟩ := h
      rw [num_small hc]; simp
    · rename_i hc
      split at h
      · rename_i m t' hr
        split at h
        · cases h
        · rename_i hm
          simp only [Option.some.injEq, Prod.mk.injEq] at h
          obtain ⟨rfl, rfl⟩ := h
          have ih := rd_some t m t' hr
          have hlt := UInt8.toNat_lt c
          rw [num_big (by omega), ih]
          have e1 : (c.toNat - 128 + 128 * m) / 128 = m := by omega
          have e2 : (c.toNat - 128 + 128 * m) % 128 = c.toNat - 128 := by omega
          rw [e1, e2, show 128 + (c.toNat - 128) = c.toNat from by omega, UInt8.ofNat_toNat]
          simp
      · cases h
theorem rd_num (n : Nat) : ∀ r, rd (num n ++ r) = some (n, r) := by
  induction n using Nat.strongRecOn with
  | _ n ih =>
    intro r
    by_cases h : n < 128
    · rw [num_small h]
      simp only [List.cons_append, List.nil_append, rd]
      have : (UInt8.ofNat n).toNat = n := by simp; omega
      rw [this, if_pos h]
    · rw [num_big h]
      simp only [List.cons_append, rd]
      have e : (UInt8.ofNat (128 + n % 128)).toNat = 128 + n % 128 := by simp; omega
      rw [ih (n / 128) (by omega) r, e, if_neg (by omega)]
      simp only
      rw [if_neg (by omega)]
      simp only [Option.some.injEq, Prod.mk.injEq, and_true]
      omega
/-- What a reader has, k bytes on, with acc of them; what stands there yields the rest. -/
def comb (k acc : Nat) : Option (Nat × List UInt8) → Option (Nat × List UInt8)
  | some (m, t) => if (k = 0 ∨ m ≠ 0) ∧ acc + 128 ^ k * m < 18446744073709551616 then some (acc + 128 ^ k * m, t) else none
  | none => none
/-- A number of 64 bits, read. -/
def rdB (l : List UInt8) : Option (Nat × List UInt8) := comb 0 0 (rd l)
theorem comb_end (k acc : Nat) : comb k acc (rd []) = none := rfl
theorem comb_more {k acc : Nat} {c : UInt8} {t : List UInt8} (h : 128 ≤ c.toNat) : comb k acc (rd (c :: t)) = comb (k + 1) (acc + 128 ^ k * (c.toNat - 128)) (rd t) := by
  rw [rd, if_neg (by omega)]
  cases hr : rd t with
  | none => rfl
  | some x =>
    obtain ⟨m, t'⟩ := x
    simp only
    by_cases hm : m = 0
    · rw [if_pos hm]
      simp [comb, hm]
    · rw [if_neg hm]
      have e : acc + 128 ^ k * (c.toNat - 128 + 128 * m) = acc + 128 ^ k * (c.toNat - 128) + 128 ^ (k + 1) * m := by
        rw [Nat.mul_add, Nat.pow_succ, Nat.mul_assoc]; omega
      simp only [comb, e]
      have h1 : k = 0 ∨ c.toNat - 128 + 128 * m ≠ 0 := .inr (by omega)
      have h2 : k + 1 = 0 ∨ m ≠ 0 := .inr hm
      by_cases hb : acc + 128 ^ k * (c.toNat - 128) + 128 ^ (k + 1) * m < 18446744073709551616
      · rw [if_pos ⟨h1, hb⟩, if_pos ⟨h2, hb⟩]
      · rw [if_neg (fun h => hb h.2), if_neg (fun h => hb h.2)]
theorem comb_last {k acc : Nat} {c : UInt8} {t : List UInt8} (h : c.toNat < 128) : comb k acc (rd (c :: t)) = if (k = 0 ∨ c.toNat ≠ 0) ∧ acc + 128 ^ k * c.toNat < 18446744073709551616 then some (acc + 128 ^ k * c.toNat, t) else none := by
  rw [rd, if_pos h]; rfl
/-- The least that a number's bytes yield. -/
theorem rd_low {c : UInt8} {t : List UInt8} {m : Nat} {r : List UInt8} (h : rd (c :: t) = some (m, r)) : c.toNat % 128 ≤ m := by
  rw [rd] at h
  have := UInt8.toNat_lt c
  split at h
  · simp only [Option.some.injEq, Prod.mk.injEq] at h; omega
  · split at h
    · split at h
      · cases h
      · simp only [Option.some.injEq, Prod.mk.injEq] at h; omega
    · cases h
theorem comb_over {k acc : Nat} {c : UInt8} {t : List UInt8} (h : 18446744073709551616 ≤ 128 ^ k * (c.toNat % 128)) : comb k acc (rd (c :: t)) = none := by
  cases hr : rd (c :: t) with
  | none => rfl
  | some x =>
    obtain ⟨m, r⟩ := x
    have h1 := rd_low hr
    have h2 : 128 ^ k * (c.toNat % 128) ≤ 128 ^ k * m := Nat.mul_le_mul_left _ h1
    simp only [comb]
    rw [if_neg (by omega)]
theorem comb_far {k acc : Nat} (hk : 10 ≤ k) (x : Option (Nat × List UInt8)) : comb k acc x = none := by
  cases x with
  | none => rfl
  | some x =>
    obtain ⟨m, r⟩ := x
    simp only [comb]
    rw [if_neg]
    rintro ⟨h1, h2⟩
    have h3 : (128 : Nat) ^ 10 ≤ 128 ^ k := Nat.pow_le_pow_right (by omega) hk
    have h4 : 128 ^ k * 1 ≤ 128 ^ k * m := Nat.mul_le_mul_left _ (by omega)
    omega
end V
end Go.Proofs.Ytocgnmklgklfnaa
