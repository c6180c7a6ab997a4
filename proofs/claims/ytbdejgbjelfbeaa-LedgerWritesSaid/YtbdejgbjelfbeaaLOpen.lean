/- The ledger's laws' arguments, opened over abstract states. -/
import Derived.Test.YtbdejgbjelfbeaaAOpen
set_option linter.unusedSimpArgs false
set_option linter.unusedVariables false
namespace Go.Proofs.Ytbdejgbjelfbeaa
open Go.ChangeShapes Go.WideShapes Go.ChangeAt Go.RowKit A
open Go.ChangeMaps (open_string shut_string)
theorem A.rows_map {α : Type} {f : α → List AV} : ∀ {rows : List (List AV)}, (∀ r ∈ rows, ∃ x, r = f x) → ∃ l : List α, rows = l.map f
  | [], _ => ⟨[], rfl⟩
  | r :: rest, h => by
    obtain ⟨x, rfl⟩ := h r (by simp)
    obtain ⟨l, rfl⟩ := A.rows_map (rows := rest) fun r hr => h r (by simp [hr])
    exact ⟨x :: l, rfl⟩
theorem A.law {f : FuncId} {aa : List AV} {vs : List Value} {W : World} (h : ACall Try.prog f aa (bv true)) (hr : AllRep NoM W aa vs) : Calls Try.prog f vs.toArray W fun e W' => e = .returned (.bool true) ∧ Ev.Ext W W' :=
  (h.2 NoM W vs (fun b hb => hb.elim) hr).mono fun e w' ⟨v, h1, h2, h3⟩ => by
    cases h3
    exact ⟨h1, h2⟩
theorem A.allcons {W : World} {a : AV} {aa : List AV} {v : Value} {vs : List Value} (h : Rep NoM W a v) (hr : AllRep NoM W aa vs) : AllRep NoM W (a :: aa) (v :: vs) := ⟨by simp [hr.1], fun j b x h1 h2 => by
  cases j with
  | zero => simp at h1 h2; subst h1 h2; exact h
  | succ j => exact hr.2 j b x (by simpa using h1) (by simpa using h2)⟩
theorem A.allnil {W : World} : AllRep NoM W [] [] := ⟨rfl, fun j b x h1 h2 => by simp at h1⟩
section
variable {H : Type} {enc : TypeId × Value → H} {W : World} {base : Nat} {spare : Nat → Bool} {held : Bool} {v : Value} {d : DataW H} {p : List MemPlace}
set_option maxRecDepth 100000 in
/-- An argument of a slice's type. -/
theorem A.open_slice {t n : Nat} {s : Shape} {e : TypeId} (ht : Try.prog.underlying t = some (.slice e)) (hk : (okG Try.prog (.sl n s)).1 t) (hv : Value.okWide Try.prog W .any base t v) (h : DataW.Trod enc Try.prog W 0 spare held t v d p) : ∃ rows : List (List AV), (∀ r ∈ rows, Fits s r) ∧ Rep NoM W (.sl n rows) v := by
  obtain ⟨a, len, cap, rfl⟩ := okWide_slice ht hv
  obtain ⟨fuel, hf⟩ := h
  obtain ⟨aa, ⟨rows, rfl, h1⟩, h2⟩ := (fits (.sl n s)).1 t fuel _ _ hk (by simpa [Value.cells] using hf)
  exact ⟨rows, h1, (h2.2 0 _ _ rfl rfl).1⟩
set_option maxRecDepth 100000 in
theorem A.open_i64 {t : TypeId} (ht : Try.prog.underlying t = some (.int .i64)) (hv : Value.okWide Try.prog W .any base t v) (h : DataW.Trod enc Try.prog W 0 spare held t v d p) : ∃ z : Int, v = .int .i64 z ∧ vok (.int .i64 z) := by
  obtain ⟨n, rfl, _, _, hn⟩ := open_int ht hv h
  refine ⟨n, rfl, ?_⟩
  simp [Lit.wf, IntKind.min, IntKind.max, IntKind.signed, IntKind.bits] at hn
  exact ⟨by omega, by omega⟩
set_option maxRecDepth 100000 in
theorem dep_fits {r : List AV} (h : Fits (.stru (.pair .str (.pair (.stru (.pair .i64 (.pair .i64 .unit))) .unit))) r) : ∃ x : Dep, r = x.row := by
  obtain ⟨_, _, rfl, ⟨k, rfl⟩, _, _, rfl, ⟨_, _, rfl, ⟨n, rfl⟩, _, _, rfl, ⟨s, rfl⟩, rfl⟩, rfl⟩ := h
  exact ⟨⟨k, n, s⟩, rfl⟩
set_option maxRecDepth 100000 in
theorem event_fits {r : List AV} (h : Fits (.stru (.pair .i64 (.pair .i64 (.pair .str (.pair (.stru (.pair .i64 (.pair .i64 .unit))) (.pair (.sl 3 (.stru (.pair .str (.pair (.stru (.pair .i64 (.pair .i64 .unit))) .unit)))) .unit)))))) r) : ∃ x : Event, r = x.row := by
  obtain ⟨_, _, rfl, ⟨kind, rfl⟩, _, _, rfl, ⟨client, rfl⟩, _, _, rfl, ⟨key, rfl⟩, _, _, rfl, ⟨_, _, rfl, ⟨n, rfl⟩, _, _, rfl, ⟨s, rfl⟩, rfl⟩, _, _, rfl, ⟨rows, rfl, hr⟩, rfl⟩ := h
  obtain ⟨l, rfl⟩ := A.rows_map fun r h => dep_fits (hr r h)
  exact ⟨⟨kind, client, key, n, s, l⟩, rfl⟩
set_option maxRecDepth 100000 in
theorem open_events (hv : Value.okWide Try.prog W .any base 22 v) (h : DataW.Trod enc Try.prog W 0 spare held 22 v d p) : ∃ l : List Event, Rep NoM W (.sl 6 (l.map Event.row)) v := by
  obtain ⟨rows, h1, h2⟩ := A.open_slice Try.underlying22 (n := 6) (s := (.stru (.pair .i64 (.pair .i64 (.pair .str (.pair (.stru (.pair .i64 (.pair .i64 .unit))) (.pair (.sl 3 (.stru (.pair .str (.pair (.stru (.pair .i64 (.pair .i64 .unit))) .unit)))) .unit))))))) ⟨_, Try.underlying22, by kernel_rfl, by decide, ⟨_, Try.underlying29, ⟨_, _, 1, rfl, rfl, by kernel_rfl, Try.underlying3, ⟨_, _, 1, rfl, rfl, by kernel_rfl, Try.underlying3, ⟨_, _, 1, rfl, rfl, by kernel_rfl, Try.underlying9, ⟨_, _, 2, rfl, rfl, by kernel_rfl, ⟨_, Try.underlying26, ⟨_, _, 1, rfl, rfl, by kernel_rfl, Try.underlying3, ⟨_, _, 1, rfl, rfl, by kernel_rfl, Try.underlying3, ⟨rfl, by kernel_rfl⟩⟩⟩⟩, ⟨_, _, 1, rfl, rfl, by kernel_rfl, ⟨_, Try.underlying27, by kernel_rfl, by decide, ⟨_, Try.underlying56, ⟨_, _, 1, rfl, rfl, by kernel_rfl, Try.underlying9, ⟨_, _, 2, rfl, rfl, by kernel_rfl, ⟨_, Try.underlying26, ⟨_, _, 1, rfl, rfl, by kernel_rfl, Try.underlying3, ⟨_, _, 1, rfl, rfl, by kernel_rfl, Try.underlying3, ⟨rfl, by kernel_rfl⟩⟩⟩⟩, ⟨rfl, by kernel_rfl⟩⟩⟩⟩⟩, ⟨rfl, by kernel_rfl⟩⟩⟩⟩⟩⟩⟩⟩ hv h
  obtain ⟨l, rfl⟩ := A.rows_map fun r h => event_fits (h1 r h)
  exact ⟨l, h2⟩
end
end Go.Proofs.Ytbdejgbjelfbeaa
