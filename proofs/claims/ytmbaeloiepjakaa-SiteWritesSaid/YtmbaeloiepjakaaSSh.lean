
/- Rows of ranges: what is whole; shapes of rows. -/
import Derived.Test.YtmbaeloiepjakaaAP
import Derived.Test.YtmbaeloiepjakaaSOp
import Derived.Test.YtmbaeloiepjakaaKRef
set_option linter.unusedSimpArgs false
set_option linter.unusedVariables false
namespace Go.Proofs.Ytmbaeloiepjakaa
open Go.RowKit A R
open A.RowT
instance : RowI Rng where
  row := Rng.row
  into h _ := by
    obtain ⟨rfl, h2, h3⟩ := h
    exact cellsc (.v _ h2) rfl (cells1 (.v _ h3) rfl)
  back h := by
    obtain ⟨x1, xs1, rfl, h1_1, h2_1, g1⟩ := uncons h
    obtain ⟨rfl, k1⟩ := repv h1_1
    obtain ⟨x2, xs2, rfl, h1_2, h2_2, g2⟩ := uncons g1
    obtain ⟨rfl, k2⟩ := repv h1_2
    obtain rfl := uncons0 g2
    exact ⟨rfl, k1, k2⟩
namespace S
def shape (c : SRow) : Bool := !(decide (c.parents.length < 1) || decide (6 < c.parents.length) || decide (8 < c.ranges.length) || !decide (c.owners.length = c.ranges.length) || !whole c.ranges)
def badP (p : Int) : Bool := decide (p < -1) || decide (6 ≤ p)
def badO (n : Nat) (x : Int) : Bool := decide (x < 1) || decide (2 ^ n ≤ x)
/-- A row that is written. -/
def written (c : SRow) : Bool := shape c && (!c.parents.any badP && !c.owners.any (badO c.parents.length))
end S
theorem shr_pos (x : Int) (n : Nat) (h : ¬ x < 1) : (!decide (x / 2 ^ n = 0)) = decide ((2 : Int) ^ n ≤ x) := by
  have hp : (0 : Int) < 2 ^ n := Int.pow_pos (by omega)
  by_cases h2 : (2 : Int) ^ n ≤ x
  · have : 1 ≤ x / 2 ^ n := (Int.le_ediv_iff_mul_le hp).2 (by omega)
    have h3 : ¬ x / 2 ^ n = 0 := by omega
    simp [h2, h3]
  · have : x / 2 ^ n = 0 := Int.ediv_eq_zero_of_lt (by omega) (by omega)
    simp [h2, this]
theorem div_in {x : Int} (n : Nat) (h : A.inI x) : A.inI (x / 2 ^ (n : Int).toNat) := by
  rw [Int.toNat_natCast]
  have hp : (0 : Int) < 2 ^ n := Int.pow_pos (by omega)
  simp only [A.inI] at *
  have h1 : -9223372036854775808 ≤ x / 2 ^ n := by
    rw [Int.le_ediv_iff_mul_le hp]
    have : (-9223372036854775808 : Int) * 2 ^ n ≤ -9223372036854775808 * 1 := Int.mul_le_mul_of_nonpos_left (by omega) (by omega)
    omega
  have h2 : x / 2 ^ n ≤ 9223372036854775807 := by
    by_cases h0 : 0 ≤ x
    · have := Int.ediv_le_self (2 ^ n) h0
      omega
    · have : x / 2 ^ n < 0 := Int.ediv_neg_of_neg_of_pos (by omega) hp
      omega
  omega
theorem S.shape_z (c : SRow) : (decide ((c.parents.length : Int) < 1) || decide (6 < (c.parents.length : Int)) || decide (8 < (c.ranges.length : Int)) || !decide ((c.owners.length : Int) = c.ranges.length) || !whole c.ranges) = !S.shape c := by
  have d1 : decide ((c.parents.length : Int) < 1) = decide (c.parents.length < 1) := decide_eq_decide.2 (by omega)
  have d2 : decide (6 < (c.parents.length : Int)) = decide (6 < c.parents.length) := decide_eq_decide.2 (by omega)
  have d3 : decide (8 < (c.ranges.length : Int)) = decide (8 < c.ranges.length) := decide_eq_decide.2 (by omega)
  have d4 : decide ((c.owners.length : Int) = c.ranges.length) = decide (c.owners.length = c.ranges.length) := decide_eq_decide.2 (by omega)
  rw [d1, d2, d3, d4, S.shape, Bool.not_not]
theorem S.shape_facts {c : SRow} (h : S.shape c = true) : 1 ≤ c.parents.length ∧ c.parents.length ≤ 6 ∧ c.ranges.length ≤ 8 ∧ c.owners.length = c.ranges.length ∧ whole c.ranges = true := by
  simp only [S.shape, Bool.not_eq_true', Bool.or_eq_false_iff, decide_eq_false_iff_not, Bool.not_eq_false', decide_eq_true_eq] at h
  obtain ⟨⟨⟨⟨h1, h2⟩, h3⟩, h4⟩, h5⟩ := h
  exact ⟨by omega, by omega, by omega, h4, h5⟩
namespace S
theorem shape_z2 (c : SRow) : (!whole c.ranges || decide (8 < (c.ranges.length : Int)) || !decide ((c.owners.length : Int) = c.ranges.length) || decide ((c.parents.length : Int) < 1) || decide (6 < (c.parents.length : Int))) = !S.shape c := by
  rw [← S.shape_z]
  cases whole c.ranges <;> cases decide (8 < (c.ranges.length : Int)) <;> cases decide ((c.owners.length : Int) = c.ranges.length) <;> cases decide ((c.parents.length : Int) < 1) <;> cases decide (6 < (c.parents.length : Int)) <;> rfl
theorem any_at {α : Type} {p : α → Bool} {l : List α} {k : Nat} (hk : k < l.length) (h : p l[k] = true) : l.any p = true := List.any_eq_true.2 ⟨_, List.getElem_mem hk, h⟩
theorem any_snoc {α : Type} {p : α → Bool} {l : List α} {k : Nat} (hk : k < l.length) (h : (l.take k).any p = false) (h2 : p l[k] = false) : (l.take (k + 1)).any p = false := by
  rw [List.take_succ_eq_append_getElem hk, List.any_append, h]; simp [h2]
theorem pow_in (k : Nat) (h : k ≤ 6) : (1 : Int) ≤ 2 ^ k ∧ (2 : Int) ^ k ≤ 64 := by
  have : k = 0 ∨ k = 1 ∨ k = 2 ∨ k = 3 ∨ k = 4 ∨ k = 5 ∨ k = 6 := by omega
  rcases this with rfl | rfl | rfl | rfl | rfl | rfl | rfl <;> decide
end S
end Go.Proofs.Ytmbaeloiepjakaa
