/- The ledger's Check: the walks. -/
import Derived.Test.YtbdejgbjelfbeaaLCheck2
set_option linter.unusedSimpArgs false
set_option linter.unusedVariables false
namespace Go.Proofs.Ytbdejgbjelfbeaa
open Go.RowKit R
/-- The cells of an event that a call has boxed, and those of a stamp of its own. -/
theorem eight_later {w w1 : World} {x0 x1 x2 x3 x4 x5 y0 y1 : Value} {T T' : TypeId} (he : Ev.Ext ((w.alloc (.cells #[x0, x1, x2, x3, x4, x5] T)).alloc (.cells #[y0, y1] T')) w1) :
    w1.cell? ⟨w.heap.size, 0, none⟩ = some x0 ∧ w1.cell? ⟨w.heap.size, 1, none⟩ = some x1 ∧ w1.cell? ⟨w.heap.size, 2, none⟩ = some x2 ∧ w1.cell? ⟨w.heap.size, 3, none⟩ = some x3 ∧ w1.cell? ⟨w.heap.size, 4, none⟩ = some x4 ∧ w1.cell? ⟨w.heap.size, 5, none⟩ = some x5 ∧ w1.cell? ⟨w.heap.size + 1, 0, none⟩ = some y0 ∧ w1.cell? ⟨w.heap.size + 1, 1, none⟩ = some y1 ∧ Ev.Ext w w1 :=
  ⟨cell_later he (by simp), cell_later he (by simp), cell_later he (by simp), cell_later he (by simp), cell_later he (by simp), cell_later he (by simp), cell_later he (by simp), cell_later he (by simp), ((ext_alloc' _ _).trans (ext_alloc' _ _)).trans he⟩
theorem ext_two (w : World) (o o' : Obj) : Ev.Ext w ((w.alloc o).alloc o') := (ext_alloc' _ _).trans (ext_alloc' _ _)
set_option maxHeartbeats 4000000 in
set_option maxRecDepth 100000 in
theorem lcheck_no (kind client n s : Int) (key : ByteArray) (seen : List Dep) (a : Option Addr) (cap : Nat) (w : World) (hks : key.size ≤ 9223372036854775807) (hlen : seen.length ≤ 9223372036854775807)
    (hh : L.headB ⟨kind, client, key, n, s, seen⟩ = false) :
    Calls Try.prog 14 #[.agg #[.int .i64 kind, .int .i64 client, .string key, .int .i64 n, .int .i64 s, .slice a seen.length cap]] w fun r w' => r = .returned (.bool false) ∧ Ev.Ext w w' := by
  have HH := Lib.hid hh
  clear hh
  go_enter Try.func14, Try.ntmps14
  go_wp2_with (first | (go_at_call 32; refine (stcheck_any _ _ _).mono ?_; rintro e w3 ⟨rfl, hb3⟩; obtain ⟨c0, c1, c2, c3, c4, c5, y0, y1, hx⟩ := eight_later hb3) | (go_at_call 33; refine (check_any _ hks _).mono ?_; rintro e w4 ⟨rfl, hb4⟩; first | (replace hx := Ev.Ext.trans hx hb4; replace c5 := cell_later hb4 c5) | (have h8 := eight_later hb4; obtain ⟨c0, c1, c2, c3, c4, c5, y0, y1, hx⟩ := h8)))
  all_goals first
    | (go_ret; exact ⟨rfl, hx⟩)
    | (go_ret; exact ⟨rfl, ext_two _ _ _⟩)
    | (exfalso; have := HH.out; simp_all [L.headB, L.kindB, V.stampB]; done)
    | (exfalso; have := HH.out; simp_all [L.headB, L.kindB, V.stampB]; omega)
end Go.Proofs.Ytbdejgbjelfbeaa
