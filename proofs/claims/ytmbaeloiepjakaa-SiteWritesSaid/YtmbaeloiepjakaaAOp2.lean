/- Laws' arguments, opened over abstract states: of every form. -/
import Derived.Test.YtmbaeloiepjakaaAOpen
set_option linter.unusedSimpArgs false
set_option linter.unusedVariables false
namespace Go.Proofs.Ytmbaeloiepjakaa
open Go.ChangeShapes Go.WideShapes Go.ChangeAt Go.RowKit A
open Go.ChangeMaps (open_string shut_string)
theorem A.rows_map {α : Type} {f : α → List AV} : ∀ {rows : List (List AV)}, (∀ r ∈ rows, ∃ x, r = f x) → ∃ l : List α, rows = l.map f
  | [], _ => ⟨[], rfl⟩
  | r :: rest, h => by
    obtain ⟨x, rfl⟩ := h r (by simp)
    obtain ⟨l, rfl⟩ := A.rows_map (rows := rest) fun r hr => h r (by simp [hr])
    exact ⟨x :: l, rfl⟩
theorem A.law {f : FuncId} {aa : List AV} {vs : List Value} {W : World} (h : ACall Try.prog f aa (bv true)) (hr : AllRep NoM W aa vs) : Calls Try.prog f vs.toArray W fun e W' => e = .returned (.bool true) ∧ Ev.Ext W W' :=
  (h.2 NoM W vs (fun b hb => hb.elim) hr).mono fun e w' ⟨v, h1, h2, h3⟩ => by
    cases h3
    exact ⟨h1, h2⟩
theorem A.allcons {W : World} {a : AV} {aa : List AV} {v : Value} {vs : List Value} (h : Rep NoM W a v) (hr : AllRep NoM W aa vs) : AllRep NoM W (a :: aa) (v :: vs) := ⟨by simp [hr.1], fun j b x h1 h2 => by
  cases j with
  | zero => simp at h1 h2; subst h1 h2; exact h
  | succ j => exact hr.2 j b x (by simpa using h1) (by simpa using h2)⟩
theorem A.allnil {W : World} : AllRep NoM W [] [] := ⟨rfl, fun j b x h1 h2 => by simp at h1⟩
section
variable {H : Type} {enc : TypeId × Value → H} {W : World} {base : Nat} {spare : Nat → Bool} {held : Bool} {v : Value} {d : DataW H} {p : List MemPlace}
set_option maxRecDepth 100000 in
/-- An argument of a slice's type. -/
theorem A.open_slice {t n : Nat} {s : Shape} {e : TypeId} (ht : Try.prog.underlying t = some (.slice e)) (hk : (okG Try.prog (.sl n s)).1 t) (hv : Value.okWide Try.prog W .any base t v) (h : DataW.Trod enc Try.prog W 0 spare held t v d p) : ∃ rows : List (List AV), (∀ r ∈ rows, Fits s r) ∧ Rep NoM W (.sl n rows) v := by
  obtain ⟨a, len, cap, rfl⟩ := okWide_slice ht hv
  obtain ⟨fuel, hf⟩ := h
  obtain ⟨aa, ⟨rows, rfl, h1⟩, h2⟩ := (fits (.sl n s)).1 t fuel _ _ hk (by simpa [Value.cells] using hf)
  exact ⟨rows, h1, (h2.2 0 _ _ rfl rfl).1⟩
set_option maxRecDepth 100000 in
/-- Of a struct's type. -/
theorem A.open_struct {t : Nat} {s : Shape} {fs : Array Field} (ht : Try.prog.underlying t = some (.struct fs)) (hk : (okG Try.prog s).1 t) (hv : Value.okWide Try.prog W .any base t v) (h : DataW.Trod enc Try.prog W 0 spare held t v d p) : ∃ r : List AV, Fits s r ∧ Rep NoM W (.row r) v := by
  obtain ⟨cs, rfl, _⟩ := okWide_struct ht hv
  obtain ⟨fuel, hf⟩ := h
  obtain ⟨aa, h1, h2⟩ := (fits s).1 t fuel _ _ hk (by simpa [Value.cells] using hf)
  have := h2.row
  exact ⟨aa, h1, by simpa using this⟩
set_option maxRecDepth 100000 in
theorem okWide_array {n : Nat} {e : TypeId} {t : TypeId} (ht : Try.prog.underlying t = some (.array n e)) (h : Value.okWide Try.prog W .any base t v) : ∃ cs, v = .agg cs := by
  simp only [Value.okWide, ht] at h
  obtain ⟨cs, h1, _⟩ := h
  exact ⟨cs, h1⟩
set_option maxRecDepth 100000 in
/-- Of an array's type. -/
theorem A.open_array {t n : Nat} {e : TypeId} {s : Shape} (ht : Try.prog.underlying t = some (.array n e)) (hk : (okG Try.prog s).1 t) (hv : Value.okWide Try.prog W .any base t v) (h : DataW.Trod enc Try.prog W 0 spare held t v d p) : ∃ r : List AV, Fits s r ∧ Rep NoM W (.row r) v := by
  obtain ⟨cs, rfl⟩ := okWide_array ht hv
  obtain ⟨fuel, hf⟩ := h
  obtain ⟨aa, h1, h2⟩ := (fits s).1 t fuel _ _ hk (by simpa [Value.cells] using hf)
  have := h2.row
  exact ⟨aa, h1, by simpa using this⟩
set_option maxRecDepth 100000 in
theorem A.open_i64 {t : TypeId} (ht : Try.prog.underlying t = some (.int .i64)) (hv : Value.okWide Try.prog W .any base t v) (h : DataW.Trod enc Try.prog W 0 spare held t v d p) : ∃ z : Int, Rep NoM W (iv z) v := by
  obtain ⟨n, rfl, _, _, hn⟩ := open_int ht hv h
  refine ⟨n, .v _ ?_⟩
  simp [Lit.wf, IntKind.min, IntKind.max, IntKind.signed, IntKind.bits] at hn
  exact ⟨by omega, by omega⟩
set_option maxRecDepth 100000 in
theorem A.open_bool {t : TypeId} (ht : Try.prog.underlying t = some .bool) (hv : Value.okWide Try.prog W .any base t v) (h : DataW.Trod enc Try.prog W 0 spare held t v d p) : ∃ z : Bool, Rep NoM W (bv z) v := by
  obtain ⟨z, rfl, _⟩ := Go.RowKit.open_bool ht hv h
  exact ⟨z, .v _ trivial⟩
set_option maxRecDepth 100000 in
theorem A.open_text {t : TypeId} (ht : Try.prog.underlying t = some .string) (hv : Value.okWide Try.prog W .any base t v) (h : DataW.Trod enc Try.prog W 0 spare held t v d p) : ∃ s : ByteArray, Rep NoM W (tv s) v := by
  obtain ⟨s, rfl, _, _, hs⟩ := open_string ht hv h
  exact ⟨s, .v _ (show s.size ≤ A.maxI by unfold maxLen at hs; unfold A.maxI; omega)⟩
end
theorem int_fits {r : List AV} (h : Fits .i64 r) : ∃ x : Int, r = [iv x] := h
theorem str_fits {r : List AV} (h : Fits .str r) : ∃ x : ByteArray, r = [tv x] := h
theorem ints_fits {r : List AV} (h : Fits (.sl 1 .i64) r) : ∃ l : List Int, r = [.sl 1 (l.map fun x => [iv x])] := by
  obtain ⟨rows, rfl, hr⟩ := h
  obtain ⟨l, rfl⟩ := A.rows_map (f := fun x : Int => [iv x]) fun r h => int_fits (hr r h)
  exact ⟨l, rfl⟩
theorem two_ints_fits {r : List AV} (h : Fits (.ar 2 1 (.sl 1 .i64)) r) : ∃ l m : List Int, r = [.sl 1 (l.map fun x => [iv x]), .sl 1 (m.map fun x => [iv x])] := by
  obtain ⟨rows, h1, rfl, hr⟩ := h
  match rows, h1 with
  | [x, y], _ =>
    obtain ⟨l, rfl⟩ := ints_fits (hr x (by simp))
    obtain ⟨m, rfl⟩ := ints_fits (hr y (by simp))
    exact ⟨l, m, rfl⟩
end Go.Proofs.Ytmbaeloiepjakaa
