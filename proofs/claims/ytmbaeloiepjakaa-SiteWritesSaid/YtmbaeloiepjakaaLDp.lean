/- Deps that are put together, keys of 12 bytes at most. -/
import Derived.Test.YtmbaeloiepjakaaLAdd
import Derived.Test.YtmbaeloiepjakaaGPast
import Derived.Test.YtmbaeloiepjakaaSOp
set_option linter.unusedSimpArgs false
set_option linter.unusedVariables false
set_option maxRecDepth 100000
namespace Go.Proofs.Ytmbaeloiepjakaa
open Go.RowKit A R
namespace J
def cut12 (d : Dep) : Dep := ⟨d.key.extract 0 12, d.n, d.s⟩
def adds (l : List Dep) : List Dep := l.foldl (fun p d => D.add p (cut12 d)) []
theorem adds_snoc (l : List Dep) (d : Dep) : adds (l ++ [d]) = D.add (adds l) (cut12 d) := by simp [adds]
theorem adds_good (l : List Dep) : D.Good (adds l) ∧ (adds l).length ≤ l.length := by
  have : ∀ (l : List Dep) (p : List Dep), D.Good p → D.Good (l.foldl (fun p d => D.add p (cut12 d)) p) ∧ (l.foldl (fun p d => D.add p (cut12 d)) p).length ≤ p.length + l.length := by
    intro l
    induction l with
    | nil => intro p h; exact ⟨h, Nat.le_refl _⟩
    | cons d r ih =>
      intro p h
      rw [List.foldl_cons]
      have h1 := ih (D.add p (cut12 d)) (D.add_good h (cut12 d))
      have h2 := D.add_len p (cut12 d)
      refine ⟨h1.1, ?_⟩
      simp only [List.length_cons]; omega
  have := this l [] D.good_nil
  simpa [adds] using this
end J
end Go.Proofs.Ytmbaeloiepjakaa
