
/- Law 13's arguments, opened over abstract states. -/
import Derived.Test.YtkmjiaegbooplaaGreatAOp2
import Derived.Test.YtkmjiaegbooplaaGreatJLa
set_option linter.unusedSimpArgs false
set_option linter.unusedVariables false
namespace Go.Proofs.YtkmjiaegbooplaaGreat
open Go.ChangeShapes Go.WideShapes Go.ChangeAt Go.RowKit A
set_option maxRecDepth 100000 in
theorem dep_fits {r : List AV} (h : Fits (.stru (.pair .str (.pair (.stru (.pair .i64 (.pair .i64 .unit))) .unit))) r) : ∃ d : Dep, r = d.row := by
  obtain ⟨_, _, rfl, ⟨k, rfl⟩, _, _, rfl, ⟨_, _, rfl, ⟨n, rfl⟩, _, _, rfl, ⟨s, rfl⟩, rfl⟩, rfl⟩ := h
  exact ⟨⟨k, n, s⟩, rfl⟩
set_option maxRecDepth 100000 in
theorem hop_fits {r : List AV} (h : Fits (.stru (.pair .i64 (.pair .i64 (.pair .i64 (.pair .i64 (.pair .boo (.pair (.stru (.pair .str (.pair .str (.pair .boo (.pair (.stru (.pair .i64 (.pair .i64 .unit))) (.pair (.sl 3 (.stru (.pair .str (.pair (.stru (.pair .i64 (.pair .i64 .unit))) .unit)))) .unit)))))) (.pair (.stru (.pair .str (.pair (.stru (.pair .i64 (.pair .i64 .unit))) .unit))) .unit)))))))) r) : ∃ o : HOp, r = o.row := by
  obtain ⟨_, _, rfl, ⟨kind, rfl⟩, _, _, rfl, ⟨key, rfl⟩, _, _, rfl, ⟨n, rfl⟩, _, _, rfl, ⟨site, rfl⟩, _, _, rfl, ⟨raw, rfl⟩, _, _, rfl, ⟨_, _, rfl, ⟨vk, rfl⟩, _, _, rfl, ⟨vv, rfl⟩, _, _, rfl, ⟨vg, rfl⟩, _, _, rfl, ⟨_, _, rfl, ⟨vn, rfl⟩, _, _, rfl, ⟨vs, rfl⟩, rfl⟩, _, _, rfl, ⟨rows, rfl, hp⟩, rfl⟩, _, _, rfl, ⟨_, _, rfl, ⟨pk, rfl⟩, _, _, rfl, ⟨_, _, rfl, ⟨pn, rfl⟩, _, _, rfl, ⟨ps, rfl⟩, rfl⟩, rfl⟩, rfl⟩ := h
  obtain ⟨past, rfl⟩ := A.rows_map fun r h => dep_fits (hp r h)
  exact ⟨⟨kind, key, n, site, raw, ⟨vk, vv, vg, vn, vs, past⟩, ⟨pk, pn, ps⟩⟩, rfl⟩
section
variable {H : Type} {enc : TypeId × Value → H} {W : World} {base : Nat} {spare : Nat → Bool} {held : Bool} {v : Value} {d : DataW H} {p : List MemPlace}
set_option maxRecDepth 100000 in
theorem open_hops (hv : Value.okWide Tryz.prog W .any base 22 v) (h : DataW.Trod enc Tryz.prog W 0 spare held 22 v d p) : ∃ l : List HOp, Rep NoM W (.sl 14 (l.map HOp.row)) v := by
  obtain ⟨rows, h1, h2⟩ := A.open_slice Tryz.underlying22 (n := 14) (s := (.stru (.pair .i64 (.pair .i64 (.pair .i64 (.pair .i64 (.pair .boo (.pair (.stru (.pair .str (.pair .str (.pair .boo (.pair (.stru (.pair .i64 (.pair .i64 .unit))) (.pair (.sl 3 (.stru (.pair .str (.pair (.stru (.pair .i64 (.pair .i64 .unit))) .unit)))) .unit)))))) (.pair (.stru (.pair .str (.pair (.stru (.pair .i64 (.pair .i64 .unit))) .unit))) .unit))))))))) ⟨_, Tryz.underlying22, by kernel_rfl, by decide, ⟨_, Tryz.underlying40, ⟨_, _, 1, rfl, rfl, by kernel_rfl, Tryz.underlying3, ⟨_, _, 1, rfl, rfl, by kernel_rfl, Tryz.underlying3, ⟨_, _, 1, rfl, rfl, by kernel_rfl, Tryz.underlying3, ⟨_, _, 1, rfl, rfl, by kernel_rfl, Tryz.underlying3, ⟨_, _, 1, rfl, rfl, by kernel_rfl, Tryz.underlying4, ⟨_, _, 6, rfl, rfl, by kernel_rfl, ⟨_, Tryz.underlying36, ⟨_, _, 1, rfl, rfl, by kernel_rfl, Tryz.underlying9, ⟨_, _, 1, rfl, rfl, by kernel_rfl, Tryz.underlying9, ⟨_, _, 1, rfl, rfl, by kernel_rfl, Tryz.underlying4, ⟨_, _, 2, rfl, rfl, by kernel_rfl, ⟨_, Tryz.underlying33, ⟨_, _, 1, rfl, rfl, by kernel_rfl, Tryz.underlying3, ⟨_, _, 1, rfl, rfl, by kernel_rfl, Tryz.underlying3, ⟨rfl, by kernel_rfl⟩⟩⟩⟩, ⟨_, _, 1, rfl, rfl, by kernel_rfl, ⟨_, Tryz.underlying34, by kernel_rfl, by decide, ⟨_, Tryz.underlying38, ⟨_, _, 1, rfl, rfl, by kernel_rfl, Tryz.underlying9, ⟨_, _, 2, rfl, rfl, by kernel_rfl, ⟨_, Tryz.underlying33, ⟨_, _, 1, rfl, rfl, by kernel_rfl, Tryz.underlying3, ⟨_, _, 1, rfl, rfl, by kernel_rfl, Tryz.underlying3, ⟨rfl, by kernel_rfl⟩⟩⟩⟩, ⟨rfl, by kernel_rfl⟩⟩⟩⟩⟩, ⟨rfl, by kernel_rfl⟩⟩⟩⟩⟩⟩⟩, ⟨_, _, 3, rfl, rfl, by kernel_rfl, ⟨_, Tryz.underlying38, ⟨_, _, 1, rfl, rfl, by kernel_rfl, Tryz.underlying9, ⟨_, _, 2, rfl, rfl, by kernel_rfl, ⟨_, Tryz.underlying33, ⟨_, _, 1, rfl, rfl, by kernel_rfl, Tryz.underlying3, ⟨_, _, 1, rfl, rfl, by kernel_rfl, Tryz.underlying3, ⟨rfl, by kernel_rfl⟩⟩⟩⟩, ⟨rfl, by kernel_rfl⟩⟩⟩⟩, ⟨rfl, by kernel_rfl⟩⟩⟩⟩⟩⟩⟩⟩⟩⟩ hv h
  obtain ⟨l, rfl⟩ := A.rows_map fun r h => hop_fits (h1 r h)
  exact ⟨l, h2⟩
set_option maxRecDepth 100000 in
theorem open_hop (hv : Value.okWide Tryz.prog W .any base 40 v) (h : DataW.Trod enc Tryz.prog W 0 spare held 40 v d p) : ∃ o : HOp, Rep NoM W (.row o.row) v := by
  obtain ⟨r, h1, h2⟩ := A.open_struct Tryz.underlying40 (s := (.stru (.pair .i64 (.pair .i64 (.pair .i64 (.pair .i64 (.pair .boo (.pair (.stru (.pair .str (.pair .str (.pair .boo (.pair (.stru (.pair .i64 (.pair .i64 .unit))) (.pair (.sl 3 (.stru (.pair .str (.pair (.stru (.pair .i64 (.pair .i64 .unit))) .unit)))) .unit)))))) (.pair (.stru (.pair .str (.pair (.stru (.pair .i64 (.pair .i64 .unit))) .unit))) .unit))))))))) ⟨_, Tryz.underlying40, ⟨_, _, 1, rfl, rfl, by kernel_rfl, Tryz.underlying3, ⟨_, _, 1, rfl, rfl, by kernel_rfl, Tryz.underlying3, ⟨_, _, 1, rfl, rfl, by kernel_rfl, Tryz.underlying3, ⟨_, _, 1, rfl, rfl, by kernel_rfl, Tryz.underlying3, ⟨_, _, 1, rfl, rfl, by kernel_rfl, Tryz.underlying4, ⟨_, _, 6, rfl, rfl, by kernel_rfl, ⟨_, Tryz.underlying36, ⟨_, _, 1, rfl, rfl, by kernel_rfl, Tryz.underlying9, ⟨_, _, 1, rfl, rfl, by kernel_rfl, Tryz.underlying9, ⟨_, _, 1, rfl, rfl, by kernel_rfl, Tryz.underlying4, ⟨_, _, 2, rfl, rfl, by kernel_rfl, ⟨_, Tryz.underlying33, ⟨_, _, 1, rfl, rfl, by kernel_rfl, Tryz.underlying3, ⟨_, _, 1, rfl, rfl, by kernel_rfl, Tryz.underlying3, ⟨rfl, by kernel_rfl⟩⟩⟩⟩, ⟨_, _, 1, rfl, rfl, by kernel_rfl, ⟨_, Tryz.underlying34, by kernel_rfl, by decide, ⟨_, Tryz.underlying38, ⟨_, _, 1, rfl, rfl, by kernel_rfl, Tryz.underlying9, ⟨_, _, 2, rfl, rfl, by kernel_rfl, ⟨_, Tryz.underlying33, ⟨_, _, 1, rfl, rfl, by kernel_rfl, Tryz.underlying3, ⟨_, _, 1, rfl, rfl, by kernel_rfl, Tryz.underlying3, ⟨rfl, by kernel_rfl⟩⟩⟩⟩, ⟨rfl, by kernel_rfl⟩⟩⟩⟩⟩, ⟨rfl, by kernel_rfl⟩⟩⟩⟩⟩⟩⟩, ⟨_, _, 3, rfl, rfl, by kernel_rfl, ⟨_, Tryz.underlying38, ⟨_, _, 1, rfl, rfl, by kernel_rfl, Tryz.underlying9, ⟨_, _, 2, rfl, rfl, by kernel_rfl, ⟨_, Tryz.underlying33, ⟨_, _, 1, rfl, rfl, by kernel_rfl, Tryz.underlying3, ⟨_, _, 1, rfl, rfl, by kernel_rfl, Tryz.underlying3, ⟨rfl, by kernel_rfl⟩⟩⟩⟩, ⟨rfl, by kernel_rfl⟩⟩⟩⟩, ⟨rfl, by kernel_rfl⟩⟩⟩⟩⟩⟩⟩⟩⟩ hv h
  obtain ⟨q, rfl⟩ := hop_fits h1
  exact ⟨q, h2⟩
set_option maxRecDepth 100000 in
theorem open_deps (hv : Value.okWide Tryz.prog W .any base 34 v) (h : DataW.Trod enc Tryz.prog W 0 spare held 34 v d p) : ∃ l : List Dep, Rep NoM W (.sl 3 (l.map Dep.row)) v := by
  obtain ⟨rows, h1, h2⟩ := A.open_slice Tryz.underlying34 (n := 3) (s := (.stru (.pair .str (.pair (.stru (.pair .i64 (.pair .i64 .unit))) .unit)))) ⟨_, Tryz.underlying34, by kernel_rfl, by decide, ⟨_, Tryz.underlying38, ⟨_, _, 1, rfl, rfl, by kernel_rfl, Tryz.underlying9, ⟨_, _, 2, rfl, rfl, by kernel_rfl, ⟨_, Tryz.underlying33, ⟨_, _, 1, rfl, rfl, by kernel_rfl, Tryz.underlying3, ⟨_, _, 1, rfl, rfl, by kernel_rfl, Tryz.underlying3, ⟨rfl, by kernel_rfl⟩⟩⟩⟩, ⟨rfl, by kernel_rfl⟩⟩⟩⟩⟩ hv h
  obtain ⟨l, rfl⟩ := A.rows_map fun r h => dep_fits (h1 r h)
  exact ⟨l, h2⟩
end
end Go.Proofs.YtkmjiaegbooplaaGreat
