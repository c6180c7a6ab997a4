
/- Number, Text, stamps' bytes: the walks. -/
import Derived.Test.YtfalbocgnmlncaaVJoin
import Derived.Test.YtfalbocgnmlncaaRep
set_option linter.unusedSimpArgs false
set_option linter.unusedVariables false
namespace Go.Proofs.Ytfalbocgnmlncaa
open Go.RowKit R
theorem conv1' (wr : World) (x : Int) : (convert 51 9 (.slice (some ⟨wr.heap.size, 0, none⟩) 1 1)).run Try.prog (wr.alloc (.cells #[.int .u8 x] 5)) = .ok (.string ⟨[UInt8.ofNat x.toNat].toArray⟩) (wr.alloc (.cells #[.int .u8 x] 5)) :=
  run_convert_bytes_arg (P := Try.prog) (w := wr.alloc (.cells #[.int .u8 x] 5)) 51 5 Try.underlying51 Try.underlying5 wr.heap.size 0 1 1 [x] rfl (fun i hi => by
    obtain rfl : i = 0 := by omega
    simp) 9 Try.underlying9
theorem conv_row {w : World} {b : Nat} {x : Int} {T : TypeId} (h : w.heap[b]? = some (.cells #[.int .u8 x] T)) : (convert 51 9 (.slice (some ⟨b, 0, none⟩) 1 1)).run Try.prog w = .ok (.string ⟨[UInt8.ofNat x.toNat].toArray⟩) w :=
  run_convert_bytes_arg (P := Try.prog) (w := w) 51 5 Try.underlying51 Try.underlying5 b 0 1 1 [x] rfl (fun i hi => by
    obtain rfl : i = 0 := by omega
    simp [World.cell?, h]) 9 Try.underlying9
end Go.Proofs.Ytfalbocgnmlncaa
