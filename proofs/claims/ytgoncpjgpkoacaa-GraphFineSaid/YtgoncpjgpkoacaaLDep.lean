/- Deps and events as data. -/
import Derived.Test.YtgoncpjgpkoacaaRDel
import Derived.WalkKit
import Derived.WalkSpells
import Derived.WalkLawsBesides
import Derived.BigQuiet
import Derived.Deep.QuietTactic
import Derived.Lib.Hide
set_option linter.unusedSimpArgs false
set_option linter.unusedVariables false
namespace Go.Proofs.Ytgoncpjgpkoacaa
open Go.RowKit R
theorem extA (w : World) (o : Obj) : Ev.Ext w (w.alloc o) := (Below.refl _ _).alloc (Nat.le_refl _) _
theorem extA2 (w : World) (o o' : Obj) : Ev.Ext w ((w.alloc o).alloc o') := (extA _ _).trans (extA _ _)
structure Dep where
  key : ByteArray
  n : Int
  s : Int
def inI (x : Int) : Prop := -9223372036854775808 ≤ x ∧ x ≤ 9223372036854775807
def Dep.val (d : Dep) : Value := .agg #[.string d.key, .int .i64 d.n, .int .i64 d.s]
instance : GoT Dep where
  n := 3
  pos := by decide
  rep _ _ cs d := cs = [.string d.key, .int .i64 d.n, .int .i64 d.s] ∧ d.key.size ≤ 9223372036854775807 ∧ inI d.n ∧ inI d.s
  len h := by rw [h.1]; rfl
  one h c hc := by rw [h.1] at hc; simp at hc; rcases hc with rfl | rfl | rfl <;> rfl
  mono _ h := h
theorem dep_n : GoT.n Dep = 3 := rfl
structure Event where
  kind : Int
  client : Int
  key : ByteArray
  n : Int
  s : Int
  seen : List Dep
def Event.val (e : Event) (v : Value) : Value := .agg #[.int .i64 e.kind, .int .i64 e.client, .string e.key, .int .i64 e.n, .int .i64 e.s, v]
instance : GoT Event where
  n := 6
  pos := by decide
  rep K w cs e := ∃ v, cs = [.int .i64 e.kind, .int .i64 e.client, .string e.key, .int .i64 e.n, .int .i64 e.s, v] ∧ (e.key.size ≤ 9223372036854775807 ∧ inI e.kind ∧ inI e.client ∧ inI e.n ∧ inI e.s) ∧ Sl K w v e.seen
  len h := by obtain ⟨v, h, _⟩ := h; rw [h]; rfl
  one h c hc := by
    obtain ⟨v, h, _, a, cap, hv, _⟩ := h
    rw [h] at hc; simp at hc
    rcases hc with rfl | rfl | rfl | rfl | rfl | rfl
    all_goals first | rfl | (rw [hv]; rfl)
  mono hk h := by
    obtain ⟨v, h1, h2, h3⟩ := h
    exact ⟨v, h1, h2, h3.mono hk⟩
theorem event_n : GoT.n Event = 6 := rfl
/-- The cells of a dep in a slice. -/
theorem dep_cells {K : Blocks} {w : World} {a : Option Addr} {len cap : Nat} {l : List Dep} (h : Sl K w (.slice a len cap) l) :
    len = l.length ∧ ∀ (i : Nat) (x : Dep), l[i]? = some x → ∃ b o, a = some ⟨b, o, none⟩ ∧ K b ∧ (x.key.size ≤ 9223372036854775807 ∧ inI x.n ∧ inI x.s) ∧ w.cell? ⟨b, o + i * 3, none⟩ = some (.string x.key) ∧ w.cell? ⟨b, o + i * 3 + 1, none⟩ = some (.int .i64 x.n) ∧ w.cell? ⟨b, o + i * 3 + 2, none⟩ = some (.int .i64 x.s) := by
  obtain ⟨hl, h⟩ := h.get
  refine ⟨hl, fun i x hx => ?_⟩
  obtain ⟨b, o, cs, ha, hb, ⟨rfl, h1⟩, hat⟩ := h i x hx
  exact ⟨b, o, ha, hb, h1, hat 0 _ rfl, hat 1 _ rfl, hat 2 _ rfl⟩
theorem dep_elem : ElemT Try.prog 31 60 3 32 := ⟨Try.underlying31, by
  have h : (Try.prog.info? 60).map (fun i => (i.zero, i.size, i.bytes)) = some (some (.agg #[.string ⟨#[]⟩, .int .i64 0, .int .i64 0]), 3, 32) := by kernel_rfl
  obtain ⟨i, hi, h1, h2, h3⟩ := info_parts h
  exact ⟨i, _, hi, h1, h2, h3, rfl⟩⟩
theorem event_elem : ElemT Try.prog 24 33 6 72 := ⟨Try.underlying24, by
  have h : (Try.prog.info? 33).map (fun i => (i.zero, i.size, i.bytes)) = some (some (.agg #[.int .i64 0, .int .i64 0, .string ⟨#[]⟩, .int .i64 0, .int .i64 0, .slice none 0 0]), 6, 72) := by kernel_rfl
  obtain ⟨i, hi, h1, h2, h3⟩ := info_parts h
  exact ⟨i, _, hi, h1, h2, h3, rfl⟩⟩
end Go.Proofs.Ytgoncpjgpkoacaa
