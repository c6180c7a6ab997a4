/- Script's laws' arguments, opened over abstract states. -/
import Derived.Test.YtocgnmklgklfnaaAOpen
import Derived.Test.YtocgnmklgklfnaaSOp
set_option linter.unusedSimpArgs false
set_option linter.unusedVariables false
namespace Go.Proofs.Ytocgnmklgklfnaa
open Go.ChangeShapes Go.WideShapes Go.ChangeAt Go.RowKit A
open Go.ChangeMaps (open_string shut_string)
theorem A.rows_map {α : Type} {f : α → List AV} : ∀ {rows : List (List AV)}, (∀ r ∈ rows, ∃ x, r = f x) → ∃ l : List α, rows = l.map f
  | [], _ => ⟨[], rfl⟩
  | r :: rest, h => by
    obtain ⟨x, rfl⟩ := h r (by simp)
    obtain ⟨l, rfl⟩ := A.rows_map (rows := rest) fun r hr => h r (by simp [hr])
    exact ⟨x :: l, rfl⟩
theorem A.law {f : FuncId} {aa : List AV} {vs : List Value} {W : World} (h : ACall Try.prog f aa (bv true)) (hr : AllRep NoM W aa vs) : Calls Try.prog f vs.toArray W fun e W' => e = .returned (.bool true) ∧ Ev.Ext W W' :=
  (h.2 NoM W vs (fun b hb => hb.elim) hr).mono fun e w' ⟨v, h1, h2, h3⟩ => by
    cases h3
    exact ⟨h1, h2⟩
theorem A.allcons {W : World} {a : AV} {aa : List AV} {v : Value} {vs : List Value} (h : Rep NoM W a v) (hr : AllRep NoM W aa vs) : AllRep NoM W (a :: aa) (v :: vs) := ⟨by simp [hr.1], fun j b x h1 h2 => by
  cases j with
  | zero => simp at h1 h2; subst h1 h2; exact h
  | succ j => exact hr.2 j b x (by simpa using h1) (by simpa using h2)⟩
theorem A.allnil {W : World} : AllRep NoM W [] [] := ⟨rfl, fun j b x h1 h2 => by simp at h1⟩
section
variable {H : Type} {enc : TypeId × Value → H} {W : World} {base : Nat} {spare : Nat → Bool} {held : Bool} {v : Value} {d : DataW H} {p : List MemPlace}
set_option maxRecDepth 100000 in
/-- An argument of a slice's type. -/
theorem A.open_slice {t n : Nat} {s : Shape} {e : TypeId} (ht : Try.prog.underlying t = some (.slice e)) (hk : (okG Try.prog (.sl n s)).1 t) (hv : Value.okWide Try.prog W .any base t v) (h : DataW.Trod enc Try.prog W 0 spare held t v d p) : ∃ rows : List (List AV), (∀ r ∈ rows, Fits s r) ∧ Rep NoM W (.sl n rows) v := by
  obtain ⟨a, len, cap, rfl⟩ := okWide_slice ht hv
  obtain ⟨fuel, hf⟩ := h
  obtain ⟨aa, ⟨rows, rfl, h1⟩, h2⟩ := (fits (.sl n s)).1 t fuel _ _ hk (by simpa [Value.cells] using hf)
  exact ⟨rows, h1, (h2.2 0 _ _ rfl rfl).1⟩
set_option maxRecDepth 100000 in
theorem A.open_i64 {t : TypeId} (ht : Try.prog.underlying t = some (.int .i64)) (hv : Value.okWide Try.prog W .any base t v) (h : DataW.Trod enc Try.prog W 0 spare held t v d p) : ∃ z : Int, v = .int .i64 z ∧ vok (.int .i64 z) := by
  obtain ⟨n, rfl, _, _, hn⟩ := open_int ht hv h
  refine ⟨n, rfl, ?_⟩
  simp [Lit.wf, IntKind.min, IntKind.max, IntKind.signed, IntKind.bits] at hn
  exact ⟨by omega, by omega⟩
set_option maxRecDepth 100000 in
theorem rng_fits {r : List AV} (h : Fits (.stru (.pair .str (.pair .str .unit))) r) : ∃ x : Rng, r = x.row := by
  obtain ⟨_, _, rfl, ⟨f, rfl⟩, _, _, rfl, ⟨t, rfl⟩, rfl⟩ := h
  exact ⟨⟨f, t⟩, rfl⟩
theorem int_fits {r : List AV} (h : Fits .i64 r) : ∃ x : Int, r = [iv x] := h
theorem str_fits {r : List AV} (h : Fits .str r) : ∃ x : ByteArray, r = [tv x] := h
set_option maxRecDepth 100000 in
theorem op_fits {r : List AV} (h : Fits (.stru (.pair .i64 (.pair .i64 (.pair .i64 (.pair .i64 (.pair .i64 (.pair .i64 (.pair .str (.pair .str (.pair (.sl 1 .str) (.pair (.stru (.pair (.sl 2 (.stru (.pair .str (.pair .str .unit)))) (.pair (.sl 1 .i64) (.pair (.sl 1 .i64) .unit)))) .unit))))))))))) r) : ∃ x : SOp, r = x.row := by
  obtain ⟨_, _, rfl, ⟨kind, rfl⟩, _, _, rfl, ⟨client, rfl⟩, _, _, rfl, ⟨site, rfl⟩, _, _, rfl, ⟨to1, rfl⟩, _, _, rfl, ⟨at1, rfl⟩, _, _, rfl, ⟨how, rfl⟩, _, _, rfl, ⟨key, rfl⟩, _, _, rfl, ⟨value, rfl⟩, _, _, rfl, ⟨ks, rfl, hk⟩, _, _, rfl, ⟨_, _, rfl, ⟨rs, rfl, hr⟩, _, _, rfl, ⟨os, rfl, ho⟩, _, _, rfl, ⟨ps, rfl, hp⟩, rfl⟩, rfl⟩ := h
  obtain ⟨ks, rfl⟩ := A.rows_map (f := fun s : ByteArray => [tv s]) fun r h => str_fits (hk r h)
  obtain ⟨rs, rfl⟩ := A.rows_map fun r h => rng_fits (hr r h)
  obtain ⟨os, rfl⟩ := A.rows_map (f := fun x : Int => [iv x]) fun r h => int_fits (ho r h)
  obtain ⟨ps, rfl⟩ := A.rows_map (f := fun x : Int => [iv x]) fun r h => int_fits (hp r h)
  exact ⟨⟨kind, client, site, to1, at1, how, key, value, ks, ⟨rs, os, ps⟩⟩, rfl⟩
set_option maxRecDepth 100000 in
theorem open_ops (hv : Value.okWide Try.prog W .any base 22 v) (h : DataW.Trod enc Try.prog W 0 spare held 22 v d p) : ∃ l : List SOp, Rep NoM W (.sl 12 (l.map SOp.row)) v := by
  obtain ⟨rows, h1, h2⟩ := A.open_slice Try.underlying22 (n := 12) (s := (.stru (.pair .i64 (.pair .i64 (.pair .i64 (.pair .i64 (.pair .i64 (.pair .i64 (.pair .str (.pair .str (.pair (.sl 1 .str) (.pair (.stru (.pair (.sl 2 (.stru (.pair .str (.pair .str .unit)))) (.pair (.sl 1 .i64) (.pair (.sl 1 .i64) .unit)))) .unit)))))))))))) ⟨_, Try.underlying22, by kernel_rfl, by decide, ⟨_, Try.underlying30, ⟨_, _, 1, rfl, rfl, by kernel_rfl, Try.underlying3, ⟨_, _, 1, rfl, rfl, by kernel_rfl, Try.underlying3, ⟨_, _, 1, rfl, rfl, by kernel_rfl, Try.underlying3, ⟨_, _, 1, rfl, rfl, by kernel_rfl, Try.underlying3, ⟨_, _, 1, rfl, rfl, by kernel_rfl, Try.underlying3, ⟨_, _, 1, rfl, rfl, by kernel_rfl, Try.underlying3, ⟨_, _, 1, rfl, rfl, by kernel_rfl, Try.underlying9, ⟨_, _, 1, rfl, rfl, by kernel_rfl, Try.underlying9, ⟨_, _, 1, rfl, rfl, by kernel_rfl, ⟨_, Try.underlying24, by kernel_rfl, by decide, Try.underlying9⟩, ⟨_, _, 3, rfl, rfl, by kernel_rfl, ⟨_, Try.underlying28, ⟨_, _, 1, rfl, rfl, by kernel_rfl, ⟨_, Try.underlying25, by kernel_rfl, by decide, ⟨_, Try.underlying46, ⟨_, _, 1, rfl, rfl, by kernel_rfl, Try.underlying9, ⟨_, _, 1, rfl, rfl, by kernel_rfl, Try.underlying9, ⟨rfl, by kernel_rfl⟩⟩⟩⟩⟩, ⟨_, _, 1, rfl, rfl, by kernel_rfl, ⟨_, Try.underlying26, by kernel_rfl, by decide, Try.underlying3⟩, ⟨_, _, 1, rfl, rfl, by kernel_rfl, ⟨_, Try.underlying26, by kernel_rfl, by decide, Try.underlying3⟩, ⟨rfl, by kernel_rfl⟩⟩⟩⟩⟩, ⟨rfl, by kernel_rfl⟩⟩⟩⟩⟩⟩⟩⟩⟩⟩⟩⟩⟩ hv h
  obtain ⟨l, rfl⟩ := A.rows_map fun r h => op_fits (h1 r h)
  exact ⟨l, h2⟩
end
end Go.Proofs.Ytocgnmklgklfnaa
