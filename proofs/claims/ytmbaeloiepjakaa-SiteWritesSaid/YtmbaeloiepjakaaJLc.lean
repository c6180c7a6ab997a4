
/- Law 13: ShardMoves, ShardOrder. -/
import Derived.Test.YtmbaeloiepjakaaJLb
import Derived.Test.YtmbaeloiepjakaaADp
set_option linter.unusedSimpArgs false
set_option linter.unusedVariables false
namespace Go.Proofs.Ytmbaeloiepjakaa
open Go.RowKit A R
open A.RowT
namespace J
theorem look_filter (P : ByteArray → Bool) : ∀ (cs : SC) (k : ByteArray), look (cs.filter fun p => P p.1) k = if P k then look cs k else none
  | [], k => by simp [look]
  | p :: r, k => by
    have ih := look_filter P r k
    rw [List.filter_cons]
    by_cases hp : P p.1 = true
    · rw [if_pos hp, look_cons, look_cons, ih]
      by_cases h : p.1 = k
      · rw [if_pos h, if_pos h, ← h, if_pos hp]
      · rw [if_neg h, if_neg h]
    · rw [if_neg hp, ih, look_cons]
      by_cases h : p.1 = k
      · rw [← h, if_neg hp, if_neg hp]
      · rw [if_neg h]
theorem getC_move (cs : SC) (rs : List Rng) (k : ByteArray) : getC (smove cs rs) k = if 0 ≤ findR rs k then getC cs k else [] := by
  unfold getC smove
  rw [look_filter (fun k => decide (0 ≤ findR rs k))]
  by_cases h : 0 ≤ findR rs k
  · rw [if_pos (by simpa using h), if_pos h]
  · rw [if_neg (by simpa using h), if_neg h]; rfl
theorem smove_sub (cs : SC) (rs : List Rng) : (smove cs rs).Sublist cs := List.filter_sublist ..
theorem smove_sm {m : Nat} {cs : SC} (h : Sm m cs) (rs : List Rng) : Sm m (smove cs rs) := ⟨Nat.le_trans (smove_sub cs rs).length_le h.1, fun p hp => h.2 p ((smove_sub cs rs).subset hp)⟩
theorem smove_rise {cs : SC} (h : RiseC cs) (rs : List Rng) : RiseC (smove cs rs) := rise_sub h (smove_sub cs rs)
end J
end Go.Proofs.Ytmbaeloiepjakaa
