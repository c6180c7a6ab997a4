
/- Numbers' bytes; plain. -/
/- Numbers' bytes: the walks. -/
/- Numbers put together: the walks. -/
/- Number, Text, stamps' bytes: the walks. -/
/- Stamps: the walks. -/
import Derived.Test.YtmbaeloiepjakaaProg
import Derived.WalkKit
import Derived.Test.YtmbaeloiepjakaaShelf
import Derived.Test.YtmbaeloiepjakaaRep
import Derived.WalkSpells
import Derived.WalkLawsBesides
import Derived.BigQuiet
import Derived.Deep.QuietTactic
import Derived.Lib.Hide
set_option linter.unusedSimpArgs false
set_option linter.unusedVariables false
namespace Go.Proofs.Ytmbaeloiepjakaa.V
/-- A number's bytes, seven bits each. -/
def num (n : Nat) : List UInt8 := if n < 128 then [UInt8.ofNat n] else UInt8.ofNat (128 + n % 128) :: num (n / 128)
termination_by n
decreasing_by omega
theorem num_small {n : Nat} (h : n < 128) : num n = [UInt8.ofNat n] := by rw [num, if_pos h]
theorem num_big {n : Nat} (h : ¬ n < 128) : num n = UInt8.ofNat (128 + n % 128) :: num (n / 128) := by rw [num, if_neg h]
theorem num_len : ∀ (k n : Nat), n < 128 ^ (k + 1) → (num n).length ≤ k + 1
  | k, n, h => by
    by_cases h1 : n < 128
    · rw [num_small h1]; simp
    · rw [num_big h1]
      cases k with
      | zero => simp at h; omega
      | succ k =>
        have := num_len k (n / 128) (by rw [Nat.pow_succ] at h; omega)
        simp; omega
theorem num_len64 {n : Nat} (h : n < 18446744073709551616) : (num n).length ≤ 10 := num_len 9 n (by omega)
theorem num_pos (n : Nat) : 1 ≤ (num n).length := by
  by_cases h1 : n < 128
  · rw [num_small h1]; simp
  · rw [num_big h1]; simp
/-- A text's bytes, with how many there are. -/
def text (s : ByteArray) : List UInt8 := num s.size ++ s.data.toList
abbrev ba (l : List UInt8) : ByteArray := ⟨l.toArray⟩
theorem ba_append (l m : List UInt8) : ba l ++ ba m = ba (l ++ m) := by apply ByteArray.ext; simp
theorem ba_data (s : ByteArray) : ba s.data.toList = s := by cases s; rfl
theorem or128 (n : Nat) : bits .or .u8 ((n : Int) % 256) 128 = ((128 + n % 128 : Nat) : Int) := by
  have h : ∀ x : Fin 256, bits .or .u8 ((x : Nat) : Int) 128 = ((128 + (x : Nat) % 128 : Nat) : Int) := by decide +kernel
  have := h ⟨n % 256, by omega⟩
  simp only at this
  rw [show ((n : Int) % 256) = ((n % 256 : Nat) : Int) from by omega, this]
  omega
end Go.Proofs.Ytmbaeloiepjakaa.V

set_option linter.unusedSimpArgs false
set_option linter.unusedVariables false
namespace Go.Proofs.Ytmbaeloiepjakaa
open Go.RowKit
end Go.Proofs.Ytmbaeloiepjakaa

set_option linter.unusedSimpArgs false
set_option linter.unusedVariables false
namespace Go.Proofs.Ytmbaeloiepjakaa
open Go.RowKit
theorem ext_alloc' (w : World) (o : Obj) : Ev.Ext w (w.alloc o) := (Below.refl _ _).alloc (Nat.le_refl _) _
def NumRow (ns : List Nat) (a : Option Addr) (w : World) : Prop := ∀ (i n : Nat), ns[i]? = some n → n < 18446744073709551616 ∧ ∃ b o, a = some ⟨b, o, none⟩ ∧ w.cell? ⟨b, o + i, none⟩ = some (.int .u64 n)
theorem flat_len (ns : List Nat) (h : ∀ n ∈ ns, n < 18446744073709551616) : (ns.flatMap V.num).length ≤ 10 * ns.length := by
  induction ns with
  | nil => simp
  | cons n r ih =>
    have h1 := V.num_len64 (h n List.mem_cons_self)
    have h2 := ih fun m hm => h m (List.mem_cons_of_mem _ hm)
    rw [List.flatMap_cons, List.length_append, List.length_cons]
    omega
end Go.Proofs.Ytmbaeloiepjakaa

set_option linter.unusedSimpArgs false
set_option linter.unusedVariables false
namespace Go.Proofs.Ytmbaeloiepjakaa
open Go.RowKit R
theorem conv1' (wr : World) (x : Int) : (convert 66 9 (.slice (some ⟨wr.heap.size, 0, none⟩) 1 1)).run Try.prog (wr.alloc (.cells #[.int .u8 x] 5)) = .ok (.string ⟨[UInt8.ofNat x.toNat].toArray⟩) (wr.alloc (.cells #[.int .u8 x] 5)) :=
  run_convert_bytes_arg (P := Try.prog) (w := wr.alloc (.cells #[.int .u8 x] 5)) 66 5 Try.underlying66 Try.underlying5 wr.heap.size 0 1 1 [x] rfl (fun i hi => by
    obtain rfl : i = 0 := by omega
    simp) 9 Try.underlying9
theorem conv_row {w : World} {b : Nat} {x : Int} {T : TypeId} (h : w.heap[b]? = some (.cells #[.int .u8 x] T)) : (convert 66 9 (.slice (some ⟨b, 0, none⟩) 1 1)).run Try.prog w = .ok (.string ⟨[UInt8.ofNat x.toNat].toArray⟩) w :=
  run_convert_bytes_arg (P := Try.prog) (w := w) 66 5 Try.underlying66 Try.underlying5 b 0 1 1 [x] rfl (fun i hi => by
    obtain rfl : i = 0 := by omega
    simp [World.cell?, h]) 9 Try.underlying9
end Go.Proofs.Ytmbaeloiepjakaa

set_option linter.unusedSimpArgs false
set_option linter.unusedVariables false
namespace Go.Proofs.Ytmbaeloiepjakaa
open Go.RowKit R
namespace V
def stampB (n s : Int) : Bool := decide (1 ≤ n) && (decide (n ≤ 1099511627776) && (decide (0 ≤ s) && decide (s < 6)))
def stamp (n s : Int) : List UInt8 := if stampB n s then num n.toNat ++ num s.toNat else []
theorem stampB_iff {n s : Int} : stampB n s = true ↔ 1 ≤ n ∧ n ≤ 1099511627776 ∧ 0 ≤ s ∧ s < 6 := by simp [stampB]
end V
set_option maxRecDepth 100000 in
theorem stcheck_any (n s : Int) (w : World) :
    Calls Try.prog 34 #[.agg #[.int .i64 n, .int .i64 s]] w fun e w' => e = .returned (.bool (V.stampB n s)) ∧ Ev.Ext w w' := by
  go_enter Try.func34, Try.ntmps34
  go_wp2
  all_goals (go_ret; exact ⟨by first | (simp_all [V.stampB]; done) | (simp_all [V.stampB]; omega), ext_alloc' _ _⟩)
end Go.Proofs.Ytmbaeloiepjakaa
