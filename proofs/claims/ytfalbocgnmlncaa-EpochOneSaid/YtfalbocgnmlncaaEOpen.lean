/- The laws' spec, opened. -/
import Derived.Test.YtfalbocgnmlncaaAOp2
import Derived.Test.YtfalbocgnmlncaaERw
set_option linter.unusedSimpArgs false
set_option linter.unusedVariables false
namespace Go.Proofs.Ytfalbocgnmlncaa
open Go.ChangeShapes Go.WideShapes Go.ChangeAt Go.RowKit A
set_option maxRecDepth 100000 in
theorem espec_fits {r : List AV} (h : Fits (.stru (.pair (.ar 2 1 (.sl 1 .i64)) (.pair (.ar 2 1 (.sl 1 .i64)) (.pair (.sl 1 .i64) (.pair .boo .unit))))) r) : ∃ q : ESpec, r = q.row := by
  obtain ⟨_, _, rfl, h1, _, _, rfl, h2, _, _, rfl, h3, _, _, rfl, ⟨b, rfl⟩, rfl⟩ := h
  obtain ⟨e0, e1, rfl⟩ := two_ints_fits h1
  obtain ⟨o0, o1, rfl⟩ := two_ints_fits h2
  obtain ⟨p, rfl⟩ := ints_fits h3
  exact ⟨⟨e0, e1, o0, o1, p, b⟩, rfl⟩
section
variable {H : Type} {enc : TypeId × Value → H} {W : World} {base : Nat} {spare : Nat → Bool} {held : Bool} {v : Value} {d : DataW H} {p : List MemPlace}
set_option maxRecDepth 100000 in
theorem open_espec (hv : Value.okWide Try.prog W .any base 25 v) (h : DataW.Trod enc Try.prog W 0 spare held 25 v d p) : ∃ q : ESpec, Rep NoM W (.row q.row) v := by
  obtain ⟨r, h1, h2⟩ := A.open_struct Try.underlying25 (s := (.stru (.pair (.ar 2 1 (.sl 1 .i64)) (.pair (.ar 2 1 (.sl 1 .i64)) (.pair (.sl 1 .i64) (.pair .boo .unit)))))) ⟨_, Try.underlying25, ⟨_, _, 2, rfl, rfl, by kernel_rfl, ⟨_, Try.underlying23, by kernel_rfl, by kernel_rfl, ⟨_, Try.underlying22, by kernel_rfl, by decide, Try.underlying3⟩⟩, ⟨_, _, 2, rfl, rfl, by kernel_rfl, ⟨_, Try.underlying23, by kernel_rfl, by kernel_rfl, ⟨_, Try.underlying22, by kernel_rfl, by decide, Try.underlying3⟩⟩, ⟨_, _, 1, rfl, rfl, by kernel_rfl, ⟨_, Try.underlying22, by kernel_rfl, by decide, Try.underlying3⟩, ⟨_, _, 1, rfl, rfl, by kernel_rfl, Try.underlying4, ⟨rfl, by kernel_rfl⟩⟩⟩⟩⟩⟩ hv h
  obtain ⟨q, rfl⟩ := espec_fits h1
  exact ⟨q, h2⟩
end
end Go.Proofs.Ytfalbocgnmlncaa
