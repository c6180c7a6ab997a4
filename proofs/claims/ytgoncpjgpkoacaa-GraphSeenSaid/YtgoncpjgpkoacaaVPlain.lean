/- Numbers' bytes; plain. -/
import Derived.Test.YtgoncpjgpkoacaaProg
import Derived.WalkKit
set_option linter.unusedSimpArgs false
set_option linter.unusedVariables false
namespace Go.Proofs.Ytgoncpjgpkoacaa.V
/-- A number's bytes, seven bits each. -/
def num (n : Nat) : List UInt8 := if n < 128 then [UInt8.ofNat n] else UInt8.ofNat (128 + n % 128) :: num (n / 128)
termination_by n
decreasing_by omega
theorem num_small {n : Nat} (h : n < 128) : num n = [UInt8.ofNat n] := by rw [num, if_pos h]
theorem num_big {n : Nat} (h : ¬ n < 128) : num n = UInt8.ofNat (128 + n % 128) :: num (n / 128) := by rw [num, if_neg h]
theorem num_len : ∀ (k n : Nat), n < 128 ^ (k + 1) → (num n).length ≤ k + 1
  | k, n, h => by
    by_cases h1 : n < 128
    · rw [num_small h1]; simp
    · rw [num_big h1]
      cases k with
      | zero => simp at h; omega
      | succ k =>
        have := num_len k (n / 128) (by rw [Nat.pow_succ] at h; omega)
        simp; omega
theorem num_len64 {n : Nat} (h : n < 18446744073709551616) : (num n).length ≤ 10 := num_len 9 n (by omega)
theorem num_pos (n : Nat) : 1 ≤ (num n).length := by
  by_cases h1 : n < 128
  · rw [num_small h1]; simp
  · rw [num_big h1]; simp
/-- A text's bytes, with how many there are. -/
def text (s : ByteArray) : List UInt8 := num s.size ++ s.data.toList
abbrev ba (l : List UInt8) : ByteArray := ⟨l.toArray⟩
theorem ba_append (l m : List UInt8) : ba l ++ ba m = ba (l ++ m) := by apply ByteArray.ext; simp
theorem ba_data (s : ByteArray) : ba s.data.toList = s := by cases s; rfl
theorem or128 (n : Nat) : bits .or .u8 ((n : Int) % 256) 128 = ((128 + n % 128 : Nat) : Int) := by
  have h : ∀ x : Fin 256, bits .or .u8 ((x : Nat) : Int) 128 = ((128 + (x : Nat) % 128 : Nat) : Int) := by decide +kernel
  have := h ⟨n % 256, by omega⟩
  simp only at this
  rw [show ((n : Int) % 256) = ((n % 256 : Nat) : Int) from by omega, this]
  omega
end Go.Proofs.Ytgoncpjgpkoacaa.V
