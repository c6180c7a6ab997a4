
/- Ranges as data; 'few'. -/
import Derived.Test.YtgoncpjgpkoacaaRep
import Derived.Test.YtgoncpjgpkoacaaKWalks3
set_option linter.unusedSimpArgs false
set_option linter.unusedVariables false
namespace Go.Proofs.Ytgoncpjgpkoacaa
open Go.RowKit R
structure Rng where
  f : ByteArray
  t : ByteArray
instance : GoT Rng where
  n := 2
  pos := by decide
  rep _ _ cs r := cs = [.string r.f, .string r.t] ∧ r.f.size ≤ 9223372036854775807 ∧ r.t.size ≤ 9223372036854775807
  len h := by rw [h.1]; rfl
  one h c hc := by rw [h.1] at hc; simp at hc; rcases hc with rfl | rfl <;> rfl
  mono _ h := h
theorem rng_n : GoT.n Rng = 2 := rfl
/-- The two cells of a range in a slice. -/
theorem rng_cells {K : Blocks} {w : World} {a : Option Addr} {len cap : Nat} {l : List Rng} (h : Sl K w (.slice a len cap) l) :
    len = l.length ∧ ∀ (i : Nat) (x : Rng), l[i]? = some x → ∃ b o, a = some ⟨b, o, none⟩ ∧ K b ∧ x.f.size ≤ 9223372036854775807 ∧ x.t.size ≤ 9223372036854775807 ∧ w.cell? ⟨b, o + i * 2, none⟩ = some (.string x.f) ∧ w.cell? ⟨b, o + i * 2 + 1, none⟩ = some (.string x.t) := by
  obtain ⟨hl, h⟩ := h.get
  refine ⟨hl, fun i x hx => ?_⟩
  obtain ⟨b, o, cs, ha, hb, ⟨rfl, h1, h2⟩, hat⟩ := h i x hx
  exact ⟨b, o, ha, hb, h1, h2, hat 0 _ rfl, hat 1 _ rfl⟩
def cut20 (r : Rng) : Rng := ⟨r.f.extract 0 20, r.t.extract 0 20⟩
def fewR (l : List Rng) : List Rng := (l.take 8).map cut20
theorem two_later' {w w1 : World} {a b : Addr} {x y : Value} (hb : Ev.Ext w w1) (h0 : w.cell? a = some x) (h1 : w.cell? b = some y) : w1.cell? a = some x ∧ w1.cell? b = some y := ⟨cell_later hb h0, cell_later hb h1⟩
end Go.Proofs.Ytgoncpjgpkoacaa
