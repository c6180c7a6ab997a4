
/- Find, Whole. -/
import Derived.Test.YtocgnmklgklfnaaKRng
set_option linter.unusedSimpArgs false
set_option linter.unusedVariables false
namespace Go.Proofs.Ytocgnmklgklfnaa
open Go.RowKit R
/-- the first place of which p is true -/
def idxF {α : Type} (p : α → Bool) (l : List α) : Int := match l.findIdx? p with | some i => i | none => -1
def NoneTo {α : Type} (p : α → Bool) (l : List α) (k : Nat) : Prop := ∀ (i : Nat) (x : α), i < k → l[i]? = some x → p x = false
theorem NoneTo.zero {α : Type} (p : α → Bool) (l : List α) : NoneTo p l 0 := fun i x h => by omega
theorem NoneTo.next {α : Type} {p : α → Bool} {l : List α} {k : Nat} (h : NoneTo p l k) {x : α} (hx : l[k]? = some x) (hp : p x = false) : NoneTo p l (k + 1) := fun i y hi hy => by
  by_cases e : i = k
  · subst e; rw [hx] at hy; cases hy; exact hp
  · exact h i y (by omega) hy
theorem NoneTo.found {α : Type} {p : α → Bool} {l : List α} {k : Nat} (h : NoneTo p l k) {x : α} (hx : l[k]? = some x) (hp : p x = true) : idxF p l = k := by
  have hlt : k < l.length := (List.getElem?_eq_some_iff.1 hx).1
  have : l.findIdx? p = some k := by
    rw [List.findIdx?_eq_some_iff_getElem]
    refine ⟨hlt, ?_, fun j hj => ?_⟩
    · have := (List.getElem?_eq_some_iff.1 hx).2; rw [this]; exact hp
    · rw [h j _ hj (List.getElem?_eq_getElem (by omega))]; simp
  unfold idxF; rw [this]
theorem NoneTo.all {α : Type} {p : α → Bool} {l : List α} (h : NoneTo p l l.length) : idxF p l = -1 := by
  have : l.findIdx? p = none := by
    rw [List.findIdx?_eq_none_iff]
    intro x hx
    obtain ⟨i, hi, rfl⟩ := List.getElem_of_mem hx
    exact h i _ hi (List.getElem?_eq_getElem hi)
  unfold idxF; rw [this]
def findR (l : List Rng) (key : ByteArray) : Int := idxF (fun r => K.hasB r.f r.t key) l
end Go.Proofs.Ytocgnmklgklfnaa
