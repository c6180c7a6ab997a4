/- Deps and events as rows of cells. -/
import Derived.Test.YtmbaeloiepjakaaAG
import Derived.Test.YtmbaeloiepjakaaRMap
set_option linter.unusedSimpArgs false
set_option linter.unusedVariables false
namespace Go.Proofs.Ytmbaeloiepjakaa
open Go.RowKit A R
open A.RowT
def Dep.row (d : Dep) : List AV := [tv d.key, iv d.n, iv d.s]
def Event.row (e : Event) : List AV := [iv e.kind, iv e.client, tv e.key, iv e.n, iv e.s, .sl 3 (e.seen.map Dep.row)]
instance : DecidableEq Dep := fun a b => decidable_of_iff (a.key = b.key ∧ a.n = b.n ∧ a.s = b.s) (by cases a; cases b; simp)
instance : RowI Dep where
  row := Dep.row
  into h _ := by
    obtain ⟨rfl, h2, h3, h4⟩ := h
    exact cellsc (.v _ h2) rfl (cellsc (.v _ h3) rfl (cells1 (.v _ h4) rfl))
  back h := by
    obtain ⟨x1, xs1, rfl, h1_1, h2_1, g1⟩ := uncons h
    obtain ⟨rfl, k1⟩ := repv h1_1
    obtain ⟨x2, xs2, rfl, h1_2, h2_2, g2⟩ := uncons g1
    obtain ⟨rfl, k2⟩ := repv h1_2
    obtain ⟨x3, xs3, rfl, h1_3, h2_3, g3⟩ := uncons g2
    obtain ⟨rfl, k3⟩ := repv h1_3
    obtain rfl := uncons0 g3
    exact ⟨rfl, k1, k2, k3⟩
instance : RowT Event where
  row := Event.row
  back h := by
    obtain ⟨x1, xs1, rfl, h1_1, h2_1, g1⟩ := uncons h
    obtain ⟨rfl, k1⟩ := repv h1_1
    obtain ⟨x2, xs2, rfl, h1_2, h2_2, g2⟩ := uncons g1
    obtain ⟨rfl, k2⟩ := repv h1_2
    obtain ⟨x3, xs3, rfl, h1_3, h2_3, g3⟩ := uncons g2
    obtain ⟨rfl, k3⟩ := repv h1_3
    obtain ⟨x4, xs4, rfl, h1_4, h2_4, g4⟩ := uncons g3
    obtain ⟨rfl, k4⟩ := repv h1_4
    obtain ⟨x5, xs5, rfl, h1_5, h2_5, g5⟩ := uncons g4
    obtain ⟨rfl, k5⟩ := repv h1_5
    obtain ⟨x6, xs6, rfl, h1_6, h2_6, g6⟩ := uncons g5
    obtain rfl := uncons0 g6
    exact ⟨x6, rfl, ⟨k3, k1, k2, k4, k5⟩, sl_of (α := Dep) h1_6⟩
end Go.Proofs.Ytmbaeloiepjakaa
