
/- The reference's Whole, Find, Same, add, Bounds. -/
import Derived.Test.YtmbaeloiepjakaaKRng
import Derived.Test.YtmbaeloiepjakaaKWalks
import Derived.Test.YtmbaeloiepjakaaKPlain
set_option linter.unusedSimpArgs false
set_option linter.unusedVariables false
namespace Go.Proofs.Ytmbaeloiepjakaa
open Go.RowKit R
/-- texts, one by one, the same -/
def sameS : List ByteArray → List ByteArray → Bool
  | [], [] => true
  | a :: l, b :: m => a.toList == b.toList && sameS l m
  | _, _ => false
def SameTo (l m : List ByteArray) (k : Nat) : Prop := ∀ (i : Nat) (a b : ByteArray), i < k → l[i]? = some a → m[i]? = some b → (a.toList == b.toList) = true
theorem sameS_iff : ∀ (l m : List ByteArray), sameS l m = true ↔ l.length = m.length ∧ SameTo l m l.length
  | [], [] => by simp [sameS, SameTo]
  | [], _ :: _ => by simp [sameS]
  | _ :: _, [] => by simp [sameS]
  | a :: l, b :: m => by
    simp only [sameS, Bool.and_eq_true, sameS_iff l m, List.length_cons]
    constructor
    · rintro ⟨h0, h1, h2⟩
      refine ⟨by omega, fun i x y hi hx hy => ?_⟩
      cases i with
      | zero => simp at hx hy; subst hx hy; exact h0
      | succ i => exact h2 i x y (by omega) (by simpa using hx) (by simpa using hy)
    · rintro ⟨h1, h2⟩
      exact ⟨h2 0 a b (by omega) rfl rfl, by omega, fun i x y hi hx hy => h2 (i + 1) x y (by omega) (by simpa using hx) (by simpa using hy)⟩
theorem SameTo.next {l m : List ByteArray} {k : Nat} (h : SameTo l m k) {a b : ByteArray} (ha : l[k]? = some a) (hb : m[k]? = some b) (he : (a.toList == b.toList) = true) : SameTo l m (k + 1) := fun i x y hi hx hy => by
  by_cases e : i = k
  · subst e; rw [ha] at hx; rw [hb] at hy; cases hx; cases hy; exact he
  · exact h i x y (by omega) hx hy
theorem str_cells {Kb : Blocks} {w : World} {a : Option Addr} {len cap : Nat} {l : List ByteArray} (h : Sl Kb w (.slice a len cap) l) :
    len = l.length ∧ ∀ (i : Nat) (x : ByteArray), l[i]? = some x → ∃ b o, a = some ⟨b, o, none⟩ ∧ Kb b ∧ x.size ≤ 9223372036854775807 ∧ w.cell? ⟨b, o + i, none⟩ = some (.string x) := by
  obtain ⟨hl, h⟩ := h.get
  refine ⟨hl, fun i x hx => ?_⟩
  obtain ⟨b, o, cs, ha, hb, ⟨rfl, h1⟩, hat⟩ := h i x hx
  have := hat 0 _ rfl
  rw [show GoT.n ByteArray = 1 from rfl, Nat.mul_one] at this
  exact ⟨b, o, ha, hb, h1, this⟩
def pv (l : List Rng) (k : Nat) : ByteArray := if k = 0 then ⟨#[]⟩ else (l.getD (k - 1) ⟨⟨#[]⟩, ⟨#[]⟩⟩).t
theorem pv_next {l : List Rng} {k : Nat} (h : k < l.length) : pv l (k + 1) = l[k].t := by simp [pv, h, List.getD]
end Go.Proofs.Ytmbaeloiepjakaa
