
/- Stamps: the walks. -/
import Derived.Test.YtgoncpjgpkoacaaVNum
set_option linter.unusedSimpArgs false
set_option linter.unusedVariables false
namespace Go.Proofs.Ytgoncpjgpkoacaa
open Go.RowKit R
namespace V
def stampB (n s : Int) : Bool := decide (1 ≤ n) && (decide (n ≤ 1099511627776) && (decide (0 ≤ s) && decide (s < 6)))
def stamp (n s : Int) : List UInt8 := if stampB n s then num n.toNat ++ num s.toNat else []
theorem stampB_iff {n s : Int} : stampB n s = true ↔ 1 ≤ n ∧ n ≤ 1099511627776 ∧ 0 ≤ s ∧ s < 6 := by simp [stampB]
end V
set_option maxRecDepth 100000 in
theorem stcheck_any (n s : Int) (w : World) :
    Calls Try.prog 65 #[.agg #[.int .i64 n, .int .i64 s]] w fun e w' => e = .returned (.bool (V.stampB n s)) ∧ Ev.Ext w w' := by
  go_enter Try.func65, Try.ntmps65
  go_wp2
  all_goals (go_ret; exact ⟨by first | (simp_all [V.stampB]; done) | (simp_all [V.stampB]; omega), ext_alloc' _ _⟩)
set_option maxRecDepth 100000 in
theorem rstcheck_any (n s : Int) (w : World) :
    Calls Try.prog 48 #[.agg #[.int .i64 n, .int .i64 s]] w fun e w' => e = .returned (.bool (V.stampB n s)) ∧ Ev.Ext w w' := by
  go_enter Try.func48, Try.ntmps48
  go_wp2
  all_goals (go_ret; exact ⟨by first | (simp_all [V.stampB]; done) | (simp_all [V.stampB]; omega), ext_alloc' _ _⟩)
end Go.Proofs.Ytgoncpjgpkoacaa
