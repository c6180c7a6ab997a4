/- Keys by numbers: what 'word' computes. -/
import Derived.Test.YtjjamghmcihlnaaKWalks3
import Derived.Test.YtjjamghmcihlnaaKPlain3
set_option linter.unusedSimpArgs false
set_option linter.unusedVariables false
namespace Go.Proofs.Ytjjamghmcihlnaa
open Go.RowKit
theorem conv1 (wr : World) (x : Int) : (convert 50 9 (.slice (some ⟨wr.heap.size, 0, none⟩) 1 1)).run Try.prog (wr.alloc (.cells #[.int .u8 x] 5)) = .ok (.string ⟨[UInt8.ofNat x.toNat].toArray⟩) (wr.alloc (.cells #[.int .u8 x] 5)) :=
  run_convert_bytes_arg (P := Try.prog) (w := wr.alloc (.cells #[.int .u8 x] 5)) 50 5 Try.underlying50 Try.underlying5 wr.heap.size 0 1 1 [x] rfl (fun i hi => by
    obtain rfl : i = 0 := by omega
    simp) 9 Try.underlying9
set_option maxHeartbeats 1000000 in
theorem word_any (n : Int) (w : World) :
    Calls Try.prog 19 #[.int .i64 n] w fun e w' => e = .returned (.string (K.word n)) ∧ Below w.heap.size w w' := by
  have hm := K.i64_and4095 n
  obtain ⟨k0, hk0⟩ : ∃ k0 : Nat, n % 4096 = k0 := ⟨(n % 4096).toNat, by omega⟩
  rw [hk0] at hm
  have hk1 : k0 < 4096 := by omega
  have HK := Lib.hid hk0
  clear hk0
  go_enter Try.func19, Try.ntmps19
  go_wp2
  clear hm
  go_loopw [3, 4] (fun s i wr => ∃ (k : Nat) (acc : List UInt8), s = .string ⟨acc.toArray⟩ ∧ i = .int .i64 k ∧ k < 4096 ∧ K.WAt n k acc ∧ Below w.heap.size w wr) (fun _ i _ => (intOf i).toNat)
  case atStart => exact ⟨k0, [], rfl, rfl, hk1, by have := K.WAt.start n; rw [HK.out] at this; exact this, Below.refl _ _⟩
  case round =>
    obtain ⟨k, acc, rfl, rfl, hk, hat, hb⟩ := hrel
    by_cases hp : 0 < k
    · have hcv := fun x => conv1 wr x
      have hal := hat.len
      go_wp2
      refine ⟨⟨k / 8, acc ++ [97 + UInt8.ofNat (k % 8)], congrArg Value.string (by apply ByteArray.ext; simp), by go_num, by omega, hat.next hp, hb.alloc hb.size _⟩, ?_⟩
      simp [intOf]; omega
    · obtain rfl : k = 0 := by omega
      have hal := hat.len
      go_wp2
      go_ret
      rw [hat.done]
      exact ⟨rfl, hb⟩
end Go.Proofs.Ytjjamghmcihlnaa
