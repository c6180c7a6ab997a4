
/- Walks of keys: Good, Meet. -/
import Derived.Test.YtgoncpjgpkoacaaKWalks2
namespace Go.Proofs.Ytgoncpjgpkoacaa
open Go.RowKit
set_option maxHeartbeats 400000 in
theorem rcheck_any (s : ByteArray) (hs : s.size ≤ 9223372036854775807) (w : World) :
    Calls Try.prog 47 #[.string s] w fun e w' => e = .returned (.bool (K.checkB s)) ∧ w = w' := by
  rw [K.check_eq]
  by_cases h1 : 1 ≤ K.runes s
  all_goals
    have hl0 : K.lim s = decide (K.runes s ≤ 8) ∨ ¬ 1 ≤ K.runes s := by simp [K.lim, h1]
    have hl1 : K.lim s = false ∨ 1 ≤ K.runes s := by simp [K.lim, h1]
    have HL0 := Lib.hid hl0
    have HL1 := Lib.hid hl1
    clear hl0 hl1
    go_enter Try.func47, Try.ntmps47
    go_wp2_with (go_at_call 63; refine (rruns_any _ hs _).mono ?_; rintro e w' ⟨rfl, rfl⟩)
    go_loop [4] (fun i => ∃ j : Nat, i = .int .i64 j ∧ j ≤ s.size ∧ K.BOk s j) (fun i => s.size - (intOf i).toNat)
    case atStart => exact ⟨0, rfl, Nat.zero_le _, K.BOk.start s⟩
    case round =>
      obtain ⟨j, rfl, hj, hok⟩ := hrel
      by_cases hjs : j < s.size
      · by_cases hc : ((s[j]'hjs).toNat : Int) < 33
        · go_wp2
          go_ret
          rw [K.rcheck_no hjs (by rw [← K.get_bt s j hjs]; omega)]
          exact ⟨rfl, rfl⟩
        · go_wp2
          go_round
          case rel => exact ⟨j + 1, by go_num, by omega, hok.next (by rw [← K.get_bt s j hjs]; omega)⟩
          case measure => simp [intOf]; omega
      · obtain rfl : j = s.size := by omega
        go_wp2
        go_ret
        rw [hok.yes]
        first
          | (rw [(HL0.out).resolve_right (by omega)]; exact ⟨rfl, rfl⟩)
          | (rw [(HL1.out).resolve_right (by omega)]; exact ⟨rfl, rfl⟩)
theorem two_cells {w w1 : World} {x y : Value} {T : TypeId} (hb : Below (w.alloc (.cells #[x, y] T)).heap.size (w.alloc (.cells #[x, y] T)) w1) :
    w1.cell? ⟨w.heap.size, 0, none⟩ = some x ∧ w1.cell? ⟨w.heap.size, 1, none⟩ = some y :=
  ⟨cell_later hb (by simp), cell_later hb (by simp)⟩
theorem two_later {w w1 : World} {x y : Value} {b : Nat} (hb : Below w.heap.size w w1) (h : w.cell? ⟨b, 0, none⟩ = some x ∧ w.cell? ⟨b, 1, none⟩ = some y) :
    w1.cell? ⟨b, 0, none⟩ = some x ∧ w1.cell? ⟨b, 1, none⟩ = some y :=
  ⟨cell_later hb h.1, cell_later hb h.2⟩
theorem below_box {w w1 : World} {o : Obj} (hb : Below (w.alloc o).heap.size (w.alloc o) w1) : Below w.heap.size w w1 :=
  ((Below.refl _ _).alloc (Nat.le_refl _) _).trans (hb.mono (by simp))
theorem below_two {w w1 w2 : World} (hb : Below w.heap.size w w1) (hb2 : Below w1.heap.size w1 w2) : Below w.heap.size w w2 := hb.trans (hb2.mono hb.size)
theorem four_cells {w w1 : World} {x y x' y' : Value} {T T' : TypeId} (hb : Below ((w.alloc (.cells #[x, y] T)).alloc (.cells #[x', y'] T')).heap.size ((w.alloc (.cells #[x, y] T)).alloc (.cells #[x', y'] T')) w1) :
    (w1.cell? ⟨w.heap.size, 0, none⟩ = some x ∧ w1.cell? ⟨w.heap.size, 1, none⟩ = some y) ∧ w1.cell? ⟨w.heap.size + 1, 0, none⟩ = some x' ∧ w1.cell? ⟨w.heap.size + 1, 1, none⟩ = some y' :=
  ⟨⟨cell_later hb (by simp), cell_later hb (by simp)⟩, cell_later hb (by simp), cell_later hb (by simp)⟩
theorem below_box2 {w w1 : World} {o o' : Obj} (hb : Below ((w.alloc o).alloc o').heap.size ((w.alloc o).alloc o') w1) : Below w.heap.size w w1 :=
  (((Below.refl _ _).alloc (Nat.le_refl _) _).alloc (by simp) _).trans (hb.mono (by simp; omega))
end Go.Proofs.Ytgoncpjgpkoacaa
