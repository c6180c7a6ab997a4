/- The graph's laws' arguments, opened over abstract states. -/
import Derived.Test.YtgoncpjgpkoacaaAOp2
import Derived.Test.YtgoncpjgpkoacaaGLw
set_option linter.unusedSimpArgs false
set_option linter.unusedVariables false
namespace Go.Proofs.Ytgoncpjgpkoacaa
open Go.ChangeShapes Go.WideShapes Go.ChangeAt Go.RowKit A
set_option maxRecDepth 100000 in
theorem dep_fits {r : List AV} (h : Fits (.stru (.pair .str (.pair (.stru (.pair .i64 (.pair .i64 .unit))) .unit))) r) : ∃ x : Dep, r = x.row := by
  obtain ⟨_, _, rfl, ⟨k, rfl⟩, _, _, rfl, ⟨_, _, rfl, ⟨n, rfl⟩, _, _, rfl, ⟨s, rfl⟩, rfl⟩, rfl⟩ := h
  exact ⟨⟨k, n, s⟩, rfl⟩
set_option maxRecDepth 100000 in
theorem event_fits {r : List AV} (h : Fits (.stru (.pair .i64 (.pair .i64 (.pair .str (.pair (.stru (.pair .i64 (.pair .i64 .unit))) (.pair (.sl 3 (.stru (.pair .str (.pair (.stru (.pair .i64 (.pair .i64 .unit))) .unit)))) .unit)))))) r) : ∃ x : Event, r = x.row := by
  obtain ⟨_, _, rfl, ⟨kind, rfl⟩, _, _, rfl, ⟨client, rfl⟩, _, _, rfl, ⟨key, rfl⟩, _, _, rfl, ⟨_, _, rfl, ⟨n, rfl⟩, _, _, rfl, ⟨s, rfl⟩, rfl⟩, _, _, rfl, ⟨rows, rfl, hr⟩, rfl⟩ := h
  obtain ⟨l, rfl⟩ := A.rows_map fun r h => dep_fits (hr r h)
  exact ⟨⟨kind, client, key, n, s, l⟩, rfl⟩
set_option maxRecDepth 100000 in
theorem act_fits {r : List AV} (h : Fits (.stru (.pair .boo (.pair .i64 (.pair .i64 (.pair .i64 (.pair .i64 .unit)))))) r) : ∃ x : Act, r = x.row := by
  obtain ⟨_, _, rfl, ⟨w, rfl⟩, _, _, rfl, ⟨c, rfl⟩, _, _, rfl, ⟨k, rfl⟩, _, _, rfl, ⟨n, rfl⟩, _, _, rfl, ⟨s, rfl⟩, rfl⟩ := h
  exact ⟨⟨w, c, k, n, s⟩, rfl⟩
section
variable {H : Type} {enc : TypeId × Value → H} {W : World} {base : Nat} {spare : Nat → Bool} {held : Bool} {v : Value} {d : DataW H} {p : List MemPlace}
set_option maxRecDepth 100000 in
theorem open_events (hv : Value.okWide Try.prog W .any base 24 v) (h : DataW.Trod enc Try.prog W 0 spare held 24 v d p) : ∃ l : List Event, Rep NoM W (.sl 6 (l.map Event.row)) v := by
  obtain ⟨rows, h1, h2⟩ := A.open_slice Try.underlying24 (n := 6) (s := (.stru (.pair .i64 (.pair .i64 (.pair .str (.pair (.stru (.pair .i64 (.pair .i64 .unit))) (.pair (.sl 3 (.stru (.pair .str (.pair (.stru (.pair .i64 (.pair .i64 .unit))) .unit)))) .unit))))))) ⟨_, Try.underlying24, by kernel_rfl, by decide, ⟨_, Try.underlying33, ⟨_, _, 1, rfl, rfl, by kernel_rfl, Try.underlying3, ⟨_, _, 1, rfl, rfl, by kernel_rfl, Try.underlying3, ⟨_, _, 1, rfl, rfl, by kernel_rfl, Try.underlying9, ⟨_, _, 2, rfl, rfl, by kernel_rfl, ⟨_, Try.underlying30, ⟨_, _, 1, rfl, rfl, by kernel_rfl, Try.underlying3, ⟨_, _, 1, rfl, rfl, by kernel_rfl, Try.underlying3, ⟨rfl, by kernel_rfl⟩⟩⟩⟩, ⟨_, _, 1, rfl, rfl, by kernel_rfl, ⟨_, Try.underlying31, by kernel_rfl, by decide, ⟨_, Try.underlying60, ⟨_, _, 1, rfl, rfl, by kernel_rfl, Try.underlying9, ⟨_, _, 2, rfl, rfl, by kernel_rfl, ⟨_, Try.underlying30, ⟨_, _, 1, rfl, rfl, by kernel_rfl, Try.underlying3, ⟨_, _, 1, rfl, rfl, by kernel_rfl, Try.underlying3, ⟨rfl, by kernel_rfl⟩⟩⟩⟩, ⟨rfl, by kernel_rfl⟩⟩⟩⟩⟩, ⟨rfl, by kernel_rfl⟩⟩⟩⟩⟩⟩⟩⟩ hv h
  obtain ⟨l, rfl⟩ := A.rows_map fun r h => event_fits (h1 r h)
  exact ⟨l, h2⟩
set_option maxRecDepth 100000 in
theorem open_acts (hv : Value.okWide Try.prog W .any base 22 v) (h : DataW.Trod enc Try.prog W 0 spare held 22 v d p) : ∃ l : List Act, Rep NoM W (.sl 5 (l.map Act.row)) v := by
  obtain ⟨rows, h1, h2⟩ := A.open_slice Try.underlying22 (n := 5) (s := (.stru (.pair .boo (.pair .i64 (.pair .i64 (.pair .i64 (.pair .i64 .unit))))))) ⟨_, Try.underlying22, by kernel_rfl, by decide, ⟨_, Try.underlying39, ⟨_, _, 1, rfl, rfl, by kernel_rfl, Try.underlying4, ⟨_, _, 1, rfl, rfl, by kernel_rfl, Try.underlying3, ⟨_, _, 1, rfl, rfl, by kernel_rfl, Try.underlying3, ⟨_, _, 1, rfl, rfl, by kernel_rfl, Try.underlying3, ⟨_, _, 1, rfl, rfl, by kernel_rfl, Try.underlying3, ⟨rfl, by kernel_rfl⟩⟩⟩⟩⟩⟩⟩⟩ hv h
  obtain ⟨l, rfl⟩ := A.rows_map fun r h => act_fits (h1 r h)
  exact ⟨l, h2⟩
end
end Go.Proofs.Ytgoncpjgpkoacaa
