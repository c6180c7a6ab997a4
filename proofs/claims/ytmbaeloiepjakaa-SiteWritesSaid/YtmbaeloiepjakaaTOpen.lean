/- Law 17's arguments, opened over abstract states. -/
import Derived.Test.YtmbaeloiepjakaaAOp2
import Derived.Test.YtmbaeloiepjakaaTLa
set_option linter.unusedSimpArgs false
set_option linter.unusedVariables false
namespace Go.Proofs.Ytmbaeloiepjakaa
open Go.ChangeShapes Go.WideShapes Go.ChangeAt Go.RowKit A
set_option maxRecDepth 100000 in
theorem dep_fits {r : List AV} (h : Fits (.stru (.pair .str (.pair (.stru (.pair .i64 (.pair .i64 .unit))) .unit))) r) : ∃ d : Dep, r = d.row := by
  obtain ⟨_, _, rfl, ⟨k, rfl⟩, _, _, rfl, ⟨_, _, rfl, ⟨n, rfl⟩, _, _, rfl, ⟨s, rfl⟩, rfl⟩, rfl⟩ := h
  exact ⟨⟨k, n, s⟩, rfl⟩
set_option maxRecDepth 100000 in
theorem top_fits {r : List AV} (h : Fits (.stru (.pair .i64 (.pair .i64 (.pair .i64 (.pair .i64 (.pair .boo (.pair .str (.pair (.sl 3 (.stru (.pair .str (.pair (.stru (.pair .i64 (.pair .i64 .unit))) .unit)))) .unit)))))))) r) : ∃ o : TOp, r = o.row := by
  obtain ⟨_, _, rfl, ⟨kind, rfl⟩, _, _, rfl, ⟨key, rfl⟩, _, _, rfl, ⟨n, rfl⟩, _, _, rfl, ⟨site, rfl⟩, _, _, rfl, ⟨gone, rfl⟩, _, _, rfl, ⟨value, rfl⟩, _, _, rfl, ⟨rows, rfl, hp⟩, rfl⟩ := h
  obtain ⟨past, rfl⟩ := A.rows_map fun r h => dep_fits (hp r h)
  exact ⟨⟨kind, key, n, site, gone, value, past⟩, rfl⟩
section
variable {H : Type} {enc : TypeId × Value → H} {W : World} {base : Nat} {spare : Nat → Bool} {held : Bool} {v : Value} {d : DataW H} {p : List MemPlace}
set_option maxRecDepth 100000 in
theorem open_tops (hv : Value.okWide Try.prog W .any base 22 v) (h : DataW.Trod enc Try.prog W 0 spare held 22 v d p) : ∃ l : List TOp, Rep NoM W (.sl 7 (l.map TOp.row)) v := by
  obtain ⟨rows, h1, h2⟩ := A.open_slice Try.underlying22 (n := 7) (s := (.stru (.pair .i64 (.pair .i64 (.pair .i64 (.pair .i64 (.pair .boo (.pair .str (.pair (.sl 3 (.stru (.pair .str (.pair (.stru (.pair .i64 (.pair .i64 .unit))) .unit)))) .unit))))))))) ⟨_, Try.underlying22, by kernel_rfl, by decide, ⟨_, Try.underlying32, ⟨_, _, 1, rfl, rfl, by kernel_rfl, Try.underlying3, ⟨_, _, 1, rfl, rfl, by kernel_rfl, Try.underlying3, ⟨_, _, 1, rfl, rfl, by kernel_rfl, Try.underlying3, ⟨_, _, 1, rfl, rfl, by kernel_rfl, Try.underlying3, ⟨_, _, 1, rfl, rfl, by kernel_rfl, Try.underlying4, ⟨_, _, 1, rfl, rfl, by kernel_rfl, Try.underlying9, ⟨_, _, 1, rfl, rfl, by kernel_rfl, ⟨_, Try.underlying30, by kernel_rfl, by decide, ⟨_, Try.underlying49, ⟨_, _, 1, rfl, rfl, by kernel_rfl, Try.underlying9, ⟨_, _, 2, rfl, rfl, by kernel_rfl, ⟨_, Try.underlying29, ⟨_, _, 1, rfl, rfl, by kernel_rfl, Try.underlying3, ⟨_, _, 1, rfl, rfl, by kernel_rfl, Try.underlying3, ⟨rfl, by kernel_rfl⟩⟩⟩⟩, ⟨rfl, by kernel_rfl⟩⟩⟩⟩⟩, ⟨rfl, by kernel_rfl⟩⟩⟩⟩⟩⟩⟩⟩⟩⟩ hv h
  obtain ⟨l, rfl⟩ := A.rows_map fun r h => top_fits (h1 r h)
  exact ⟨l, h2⟩
set_option maxRecDepth 100000 in
theorem open_top (hv : Value.okWide Try.prog W .any base 32 v) (h : DataW.Trod enc Try.prog W 0 spare held 32 v d p) : ∃ o : TOp, Rep NoM W (.row o.row) v := by
  obtain ⟨r, h1, h2⟩ := A.open_struct Try.underlying32 (s := (.stru (.pair .i64 (.pair .i64 (.pair .i64 (.pair .i64 (.pair .boo (.pair .str (.pair (.sl 3 (.stru (.pair .str (.pair (.stru (.pair .i64 (.pair .i64 .unit))) .unit)))) .unit))))))))) ⟨_, Try.underlying32, ⟨_, _, 1, rfl, rfl, by kernel_rfl, Try.underlying3, ⟨_, _, 1, rfl, rfl, by kernel_rfl, Try.underlying3, ⟨_, _, 1, rfl, rfl, by kernel_rfl, Try.underlying3, ⟨_, _, 1, rfl, rfl, by kernel_rfl, Try.underlying3, ⟨_, _, 1, rfl, rfl, by kernel_rfl, Try.underlying4, ⟨_, _, 1, rfl, rfl, by kernel_rfl, Try.underlying9, ⟨_, _, 1, rfl, rfl, by kernel_rfl, ⟨_, Try.underlying30, by kernel_rfl, by decide, ⟨_, Try.underlying49, ⟨_, _, 1, rfl, rfl, by kernel_rfl, Try.underlying9, ⟨_, _, 2, rfl, rfl, by kernel_rfl, ⟨_, Try.underlying29, ⟨_, _, 1, rfl, rfl, by kernel_rfl, Try.underlying3, ⟨_, _, 1, rfl, rfl, by kernel_rfl, Try.underlying3, ⟨rfl, by kernel_rfl⟩⟩⟩⟩, ⟨rfl, by kernel_rfl⟩⟩⟩⟩⟩, ⟨rfl, by kernel_rfl⟩⟩⟩⟩⟩⟩⟩⟩⟩ hv h
  obtain ⟨q, rfl⟩ := top_fits h1
  exact ⟨q, h2⟩
end
end Go.Proofs.Ytmbaeloiepjakaa
