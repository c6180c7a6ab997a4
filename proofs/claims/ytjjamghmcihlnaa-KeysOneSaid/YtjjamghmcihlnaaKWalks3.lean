/- Walks of keys: Good, Meet. -/
import Derived.Test.YtjjamghmcihlnaaKWalks2
namespace Go.Proofs.Ytjjamghmcihlnaa
open Go.RowKit
set_option maxHeartbeats 400000 in
theorem rcheck_any (s : ByteArray) (hs : s.size ≤ 9223372036854775807) (w : World) :
    Calls Try.prog 14 #[.string s] w fun e w' => e = .returned (.bool (K.checkB s)) ∧ w = w' := by
  rw [K.check_eq]
  by_cases h1 : 1 ≤ K.runes s
  all_goals
    have hl0 : K.lim s = decide (K.runes s ≤ 8) ∨ ¬ 1 ≤ K.runes s := by simp [K.lim, h1]
    have hl1 : K.lim s = false ∨ 1 ≤ K.runes s := by simp [K.lim, h1]
    have HL0 := Lib.hid hl0
    have HL1 := Lib.hid hl1
    clear hl0 hl1
    go_enter Try.func14, Try.ntmps14
    go_wp2_with (go_at_call 16; refine (rruns_any _ hs _).mono ?_; rintro e w' ⟨rfl, rfl⟩)
    go_loop [4] (fun i => ∃ j : Nat, i = .int .i64 j ∧ j ≤ s.size ∧ K.BOk s j) (fun i => s.size - (intOf i).toNat)
    case atStart => exact ⟨0, rfl, Nat.zero_le _, K.BOk.start s⟩
    case round =>
      obtain ⟨j, rfl, hj, hok⟩ := hrel
      by_cases hjs : j < s.size
      · by_cases hc : ((s[j]'hjs).toNat : Int) < 33
        · go_wp2
          go_ret
          rw [K.rcheck_no hjs (by rw [← K.get_bt s j hjs]; omega)]
          exact ⟨rfl, rfl⟩
        · go_wp2
          go_round
          case rel => exact ⟨j + 1, by go_num, by omega, hok.next (by rw [← K.get_bt s j hjs]; omega)⟩
          case measure => simp [intOf]; omega
      · obtain rfl : j = s.size := by omega
        go_wp2
        go_ret
        rw [hok.yes]
        first
          | (rw [(HL0.out).resolve_right (by omega)]; exact ⟨rfl, rfl⟩)
          | (rw [(HL1.out).resolve_right (by omega)]; exact ⟨rfl, rfl⟩)
theorem two_cells {w w1 : World} {x y : Value} {T : TypeId} (hb : Below (w.alloc (.cells #[x, y] T)).heap.size (w.alloc (.cells #[x, y] T)) w1) :
    w1.cell? ⟨w.heap.size, 0, none⟩ = some x ∧ w1.cell? ⟨w.heap.size, 1, none⟩ = some y :=
  ⟨cell_later hb (by simp), cell_later hb (by simp)⟩
theorem two_later {w w1 : World} {x y : Value} {b : Nat} (hb : Below w.heap.size w w1) (h : w.cell? ⟨b, 0, none⟩ = some x ∧ w.cell? ⟨b, 1, none⟩ = some y) :
    w1.cell? ⟨b, 0, none⟩ = some x ∧ w1.cell? ⟨b, 1, none⟩ = some y :=
  ⟨cell_later hb h.1, cell_later hb h.2⟩
theorem below_box {w w1 : World} {o : Obj} (hb : Below (w.alloc o).heap.size (w.alloc o) w1) : Below w.heap.size w w1 :=
  ((Below.refl _ _).alloc (Nat.le_refl _) _).trans (hb.mono (by simp))
theorem below_two {w w1 w2 : World} (hb : Below w.heap.size w w1) (hb2 : Below w1.heap.size w1 w2) : Below w.heap.size w w2 := hb.trans (hb2.mono hb.size)
set_option maxHeartbeats 400000 in
theorem may_any (s : ByteArray) (hs : s.size ≤ 9223372036854775807) (w : World) :
    Calls Try.prog 33 #[.string s] w fun e w' => e = .returned (.bool (K.mayB s)) ∧ Below w.heap.size w w' := by
  go_enter Try.func33, Try.ntmps33
  go_wp2_with (go_at_call 13; refine (check_any _ hs _).mono ?_; rintro e w1 ⟨rfl, hb1⟩)
  · go_ret
    exact ⟨ret_bool (by simp_all [K.mayB]), Below.refl _ _⟩
  · go_ret
    exact ⟨ret_bool (by simp_all [K.mayB]), by assumption⟩
set_option maxHeartbeats 400000 in
theorem good_any (f t : ByteArray) (hf : f.size ≤ 9223372036854775807) (ht : t.size ≤ 9223372036854775807) (w : World) :
    Calls Try.prog 20 #[.agg #[.string f, .string t]] w fun e w' => e = .returned (.bool (K.goodB f t)) ∧ Below w.heap.size w w' := by
  go_enter Try.func20, Try.ntmps20
  go_wp2_with fail
  refine (may_any _ hf _).mono ?_; rintro e w1 ⟨rfl, hb1⟩
  have hc1 := two_cells hb1
  obtain ⟨c0, c1⟩ := hc1
  go_wp2_with (go_at_call 33; refine (may_any _ ht _).mono ?_; rintro e w2 ⟨rfl, hb2⟩; obtain ⟨d0, d1⟩ := two_later hb2 ⟨c0, c1⟩)
  all_goals (go_ret; first | exact ⟨ret_bool (by simp_all [K.goodB]), below_box hb1⟩ | exact ⟨ret_bool (by simp_all [K.goodB]), below_two (below_box hb1) (by assumption)⟩)
theorem four_cells {w w1 : World} {x y x' y' : Value} {T T' : TypeId} (hb : Below ((w.alloc (.cells #[x, y] T)).alloc (.cells #[x', y'] T')).heap.size ((w.alloc (.cells #[x, y] T)).alloc (.cells #[x', y'] T')) w1) :
    (w1.cell? ⟨w.heap.size, 0, none⟩ = some x ∧ w1.cell? ⟨w.heap.size, 1, none⟩ = some y) ∧ w1.cell? ⟨w.heap.size + 1, 0, none⟩ = some x' ∧ w1.cell? ⟨w.heap.size + 1, 1, none⟩ = some y' :=
  ⟨⟨cell_later hb (by simp), cell_later hb (by simp)⟩, cell_later hb (by simp), cell_later hb (by simp)⟩
theorem below_box2 {w w1 : World} {o o' : Obj} (hb : Below ((w.alloc o).alloc o').heap.size ((w.alloc o).alloc o') w1) : Below w.heap.size w w1 :=
  (((Below.refl _ _).alloc (Nat.le_refl _) _).alloc (by simp) _).trans (hb.mono (by simp; omega))
set_option maxHeartbeats 400000 in
theorem meet_any (f t f' t' : ByteArray) (hf : f.size ≤ 9223372036854775807) (ht : t.size ≤ 9223372036854775807) (hf' : f'.size ≤ 9223372036854775807) (ht' : t'.size ≤ 9223372036854775807) (w : World) :
    Calls Try.prog 21 #[.agg #[.string f, .string t], .agg #[.string f', .string t']] w fun e w' => e = .returned (.bool (K.meetB f t f' t')) ∧ Below w.heap.size w w' := by
  go_enter Try.func21, Try.ntmps21
  go_wp2_with fail
  refine (good_any _ _ hf ht _).mono ?_; rintro e w1 ⟨rfl, hb1⟩
  have hc1 := four_cells hb1
  obtain ⟨⟨c0, c1⟩, c2, c3⟩ := hc1
  go_wp2_with (go_at_call 20; refine (good_any _ _ hf' ht' _).mono ?_; rintro e w2 ⟨rfl, hb2⟩; obtain ⟨d0, d1⟩ := two_later hb2 ⟨c0, c1⟩; obtain ⟨d2, d3⟩ := two_later hb2 ⟨c2, c3⟩)
  all_goals (go_ret; first | exact ⟨ret_bool (by simp_all [K.meetB]), below_box2 hb1⟩ | exact ⟨ret_bool (by simp_all [K.meetB]), below_two (below_box2 hb1) (by assumption)⟩)
set_option maxHeartbeats 400000 in
theorem rgood_any (f t : ByteArray) (hf : f.size ≤ 9223372036854775807) (ht : t.size ≤ 9223372036854775807) (w : World) :
    Calls Try.prog 25 #[.agg #[.string f, .string t]] w fun e w' => e = .returned (.bool (K.goodB f t)) ∧ Below w.heap.size w w' := by
  go_enter Try.func25, Try.ntmps25
  go_wp2_with fail
  refine (rcheck_any _ hf _).mono ?_; rintro e w1 ⟨rfl, rfl⟩
  go_wp2_with fail
  refine (rcheck_any _ ht _).mono ?_; rintro e w1 ⟨rfl, rfl⟩
  go_wp2
  all_goals (go_ret; exact ⟨ret_bool (by simp_all [K.goodB, K.mayB]), (Below.refl _ _).alloc (Nat.le_refl _) _⟩)
set_option maxHeartbeats 400000 in
theorem rmeet_any (f t f' t' : ByteArray) (hf : f.size ≤ 9223372036854775807) (ht : t.size ≤ 9223372036854775807) (hf' : f'.size ≤ 9223372036854775807) (ht' : t'.size ≤ 9223372036854775807) (w : World) :
    Calls Try.prog 26 #[.agg #[.string f, .string t], .agg #[.string f', .string t']] w fun e w' => e = .returned (.bool (K.rmeetB f t f' t')) ∧ Below w.heap.size w w' := by
  go_enter Try.func26, Try.ntmps26
  go_wp2_with fail
  refine (rgood_any _ _ hf ht _).mono ?_; rintro e w1 ⟨rfl, hb1⟩
  have hc1 := four_cells hb1
  obtain ⟨⟨c0, c1⟩, c2, c3⟩ := hc1
  go_wp2_with fail
  refine (rgood_any _ _ hf' ht' _).mono ?_; rintro e w2 ⟨rfl, hb2⟩; obtain ⟨d0, d1⟩ := two_later hb2 ⟨c0, c1⟩; obtain ⟨d2, d3⟩ := two_later hb2 ⟨c2, c3⟩
  have hb0 := below_two (below_box2 hb1) hb2
  go_wp2_with (go_at_call 18; refine (rhas_any _ _ _ _).mono ?_; rintro e w3 ⟨rfl, hb3⟩)
  all_goals (go_ret; first | exact ⟨ret_bool (by simp_all [K.rmeetB]), hb0⟩ | exact ⟨ret_bool (by simp_all [K.rmeetB]), below_two hb0 (by assumption)⟩)
set_option maxHeartbeats 1000000 in
theorem awake_any (w : World) : Calls Try.prog 11 #[] w fun e w' => e = .returned (.bool true) ∧ Below w.heap.size w w' := by
  have x0 : K.goodB ⟨#[98]⟩ ⟨#[100]⟩ = true := by decide +kernel
  have x1 : K.hasB ⟨#[98]⟩ ⟨#[100]⟩ ⟨#[98]⟩ = true := by decide +kernel
  have x2 : K.hasB ⟨#[98]⟩ ⟨#[100]⟩ ⟨#[99, 99]⟩ = true := by decide +kernel
  have x3 : K.hasB ⟨#[98]⟩ ⟨#[100]⟩ ⟨#[100]⟩ = false := by decide +kernel
  have x4 : K.hasB ⟨#[98]⟩ ⟨#[100]⟩ ⟨#[97]⟩ = false := by decide +kernel
  have x5 : K.checkB ⟨#[195, 169]⟩ = true := by decide +kernel
  have x6 : K.runes ⟨#[195, 169, 97]⟩ = 2 := by decide +kernel
  go_enter Try.func11, Try.ntmps11
  go_wp2_with fail
  refine (good_any _ _ (by decide) (by decide) _).mono ?_; rintro e w1 ⟨rfl, hb1⟩
  have c := two_cells hb1
  obtain ⟨c0, c1⟩ := c
  go_wp2_with fail
  refine (has_any _ _ _ _).mono ?_; rintro e w2 ⟨rfl, hb2⟩
  obtain ⟨d0, d1⟩ := two_later hb2 ⟨c0, c1⟩
  go_wp2_with fail
  refine (has_any _ _ _ _).mono ?_; rintro e w3 ⟨rfl, hb3⟩
  obtain ⟨e0, e1⟩ := two_later hb3 ⟨d0, d1⟩
  go_wp2_with fail
  refine (has_any _ _ _ _).mono ?_; rintro e w4 ⟨rfl, hb4⟩
  obtain ⟨f0, f1⟩ := two_later hb4 ⟨e0, e1⟩
  go_wp2_with fail
  refine (has_any _ _ _ _).mono ?_; rintro e w5 ⟨rfl, hb5⟩
  go_wp2_with fail
  refine (check_any _ (by decide) _).mono ?_; rintro e w6 ⟨rfl, hb6⟩
  go_wp2_with fail
  refine (runes_any _ (by decide) _).mono ?_; rintro e w7 ⟨rfl, hb7⟩
  go_wp2
  go_ret
  exact ⟨rfl, below_two (below_two (below_two (below_two (below_two (below_two (below_box hb1) hb2) hb3) hb4) hb5) hb6) hb7⟩
end Go.Proofs.Ytjjamghmcihlnaa
