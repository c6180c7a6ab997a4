
/- Walks of keys: what each function computes. -/
/- Walks of the reference's keys. -/
/- Walks of keys: Good, Meet. -/
import Derived.Test.YtmbaeloiepjakaaProg
import Derived.Test.YtmbaeloiepjakaaKPlain
import Derived.WalkKit
import Derived.WalkSpells
import Derived.WalkLawsBesides
import Derived.BigQuiet
import Derived.Deep.QuietTactic
import Derived.Lib.Hide
import Derived.Lib.OthersKept
namespace Go.Proofs.Ytmbaeloiepjakaa
open Go.RowKit
theorem ret_int {k : IntKind} {a b : Int} (h : a = b) : Ending.returned (.int k a) = .returned (.int k b) := by rw [h]
theorem ret_bool {a b : Bool} (h : a = b) : Ending.returned (.bool a) = .returned (.bool b) := by rw [h]
set_option maxHeartbeats 400000 in
theorem runes_any (s : ByteArray) (hs : s.size ≤ 9223372036854775807) (w : World) :
    Calls Try.prog 47 #[.string s] w fun e w' => e = .returned (.int .i64 (K.runes s)) ∧ Below w.heap.size w w' := by
  go_enter Try.func47, Try.ntmps47
  go_wp2
  go_loopw [2, 3] (fun r n wr => ∃ (pos k : Nat), wr.heap[w.heap.size]? = some (.stringIter s pos) ∧ Below w.heap.size w wr ∧ r = .int .i64 0 ∧ n = .int .i64 k ∧ k ≤ pos ∧ K.At s pos k) (fun _ _ wr => s.size - wr.iterPos w.heap.size)
  case atStart => exact ⟨0, 0, World.iter_heap w s 0, (Below.refl _ _).alloc (Nat.le_refl _) _, rfl, rfl, Nat.le_refl _, K.At.start s⟩
  case round =>
    obtain ⟨pos, k, hit, hb, rfl, rfl, hk, hat⟩ := hrel
    by_cases hp : pos < s.size
    · have hnx : ∀ ty, (Instr.next (.pointer (some ⟨w.heap.size, 0, none⟩)) true ty).run Try.prog wr = _ := fun ty => Lib.run_next_any_at wr w.heap.size s pos ty hit hp
      have hw0 := K.wd_pos s pos hp
      have hit2 := Lib.iterAt_heap wr w.heap.size s pos (pos + (Utf8.decode s pos).2) hit
      have hb2 := Lib.below_iterAt hb (k := w.heap.size) (Nat.le_refl _) s (pos + (Utf8.decode s pos).2)
      unfold K.wd at hw0
      have hm : ∀ nq, s.size - ((wr.iterAt w.heap.size s (pos + (Utf8.decode s pos).2)).drewN nq).iterPos w.heap.size < s.size - wr.iterPos w.heap.size := fun nq => by
        have e1 : wr.iterPos w.heap.size = pos := by simp [World.iterPos, hit]
        have e2 : ((wr.iterAt w.heap.size s (pos + (Utf8.decode s pos).2)).drewN nq).iterPos w.heap.size = pos + (Utf8.decode s pos).2 := by simp [World.iterPos, hit2]
        rw [e1, e2]; omega
      have HM := Lib.hid hm
      clear hm
      go_wp2
      by_cases hr : (((Utf8.decode s pos).1 : Nat) : Int) = 65533
      · have hr1 : ((((Utf8.decode s pos).1 : Nat) : Int) == 65533) = true := by rw [hr]; rfl
        have HR : K.Hid' _ _ := ⟨hr⟩
        clear hr
        cases hok : K.okAt s pos
        · go_quiet (fail)
          go_wp2
          · go_ret
            rw [hat.bad hp hok]; exact ⟨rfl, below_drewN hb2 _⟩
          · go_ret
            rw [hat.bad hp hok]; exact ⟨rfl, below_drewN hb2 _⟩
          · exact (K.fffd_no s pos hp hok (by assumption) (by assumption) (by rename_i h; exact h.2)).elim
          · go_ret
            rw [hat.bad hp hok]; exact ⟨rfl, below_drewN hb2 _⟩
        · have ⟨f1, f2, f3⟩ := K.fffd_b s pos hp hok HR
          have f4 : ¬ (s.size : Int) - (pos : Int) < 3 := by omega
          go_quiet (fail)
          go_wp2
          exact ⟨⟨pos + (Utf8.decode s pos).2, k + 1, hit2, below_drewN hb2 _, rfl, by go_num, by omega, hat.next hp hok⟩, HM.out _⟩
      · have hr1 : ((((Utf8.decode s pos).1 : Nat) : Int) == 65533) = false := by simpa using hr
        have hok : K.okAt s pos = true := by
          cases ho : K.okAt s pos with
          | true => rfl
          | false => exact absurd (by have := ((K.decode_fffd s pos hp).2 ho).1; unfold K.rn at this; omega) hr
        clear hr
        go_quiet (fail)
        go_wp2
        exact ⟨⟨pos + (Utf8.decode s pos).2, k + 1, hit2, below_drewN hb2 _, rfl, by go_num, by omega, hat.next hp hok⟩, HM.out _⟩
    · have hnx : ∀ ty, (Instr.next (.pointer (some ⟨w.heap.size, 0, none⟩)) true ty).run Try.prog wr = _ := fun ty => Lib.run_next_end_at wr w.heap.size s pos ty hit hp
      go_wp2
      go_ret
      rw [hat.done hp]; exact ⟨rfl, hb⟩

set_option maxHeartbeats 400000 in
theorem has_any (f t k : ByteArray) (w : World) :
    Calls Try.prog 46 #[.agg #[.string f, .string t], .string k] w fun e w' => e = .returned (.bool (K.hasB f t k)) ∧ Below w.heap.size w w' := by
  go_enter Try.func46, Try.ntmps46
  go_wp2
  all_goals (go_ret; exact ⟨by simp_all [K.hasB], (Below.refl _ _).alloc (Nat.le_refl _) _⟩)
set_option maxHeartbeats 400000 in
theorem check_any (s : ByteArray) (hs : s.size ≤ 9223372036854775807) (w : World) :
    Calls Try.prog 33 #[.string s] w fun e w' => e = .returned (.bool (K.checkB s)) ∧ Below w.heap.size w w' := by
  by_cases h1 : 1 ≤ K.runes s
  all_goals
    have hl0 : K.lim s = decide (K.runes s ≤ 8) ∨ ¬ 1 ≤ K.runes s := by simp [K.lim, h1]
    have hl1 : K.lim s = false ∨ 1 ≤ K.runes s := by simp [K.lim, h1]
    have HL0 := Lib.hid hl0
    have HL1 := Lib.hid hl1
    clear hl0 hl1
    go_enter Try.func33, Try.ntmps33
    go_wp2
    go_step3
    go_wp2_with (go_at_call 47; refine (runes_any _ hs _).mono ?_; rintro e w1 ⟨rfl, hb1⟩)
    go_step3
    go_wp2
    go_loopw [4] (fun r wr => ∃ (pos : Nat) (b : Bool), wr.heap[w1.heap.size]? = some (.stringIter s pos) ∧ Below w.heap.size w wr ∧ r = .bool b ∧ K.CAt s pos b) (fun _ wr => s.size - wr.iterPos w1.heap.size)
    case atStart =>
      refine ⟨0, _, World.iter_heap w1 s 0, hb1.trans ((Below.refl _ _).alloc hb1.size _), rfl, ?_⟩
      have := K.CAt.start s
      first
        | (rw [(HL0.out).resolve_right (by simpa using h1)] at this; exact this)
        | (rw [(HL1.out).resolve_right (by omega)] at this; exact this)
    case round =>
      obtain ⟨pos, b, hit, hb, rfl, hat⟩ := hrel
      by_cases hp : pos < s.size
      · have hnx : ∀ ty, (Instr.next (.pointer (some ⟨w1.heap.size, 0, none⟩)) true ty).run Try.prog wr = _ := fun ty => Lib.run_next_any_at wr w1.heap.size s pos ty hit hp
        have hw0 := K.wd_pos s pos hp
        have hit2 := Lib.iterAt_heap wr w1.heap.size s pos (pos + (Utf8.decode s pos).2) hit
        have hb2 := Lib.below_iterAt hb (k := w1.heap.size) hb1.size s (pos + (Utf8.decode s pos).2)
        have hm : s.size - (wr.iterAt w1.heap.size s (pos + (Utf8.decode s pos).2)).iterPos w1.heap.size < s.size - wr.iterPos w1.heap.size := by
          unfold K.wd at hw0
          have e1 : wr.iterPos w1.heap.size = pos := by simp [World.iterPos, hit]
          have e2 : (wr.iterAt w1.heap.size s (pos + (Utf8.decode s pos).2)).iterPos w1.heap.size = pos + (Utf8.decode s pos).2 := by simp [World.iterPos, hit2]
          rw [e1, e2]; omega
        have HM := Lib.hid hm
        clear hm hw0
        cases b
        · go_wp2
          rw [Exit.noGoto_ret]
          go_ret
          rw [hat.no]
          exact ⟨rfl, hb2⟩
        · go_wp2
          have hn := hat.next hp
          have e : decide ((33 : Int) ≤ ((Utf8.decode s pos).1 : Int)) = decide (33 ≤ K.rn s pos) := by
            unfold K.rn; rw [decide_eq_decide]; omega
          exact ⟨⟨pos + (Utf8.decode s pos).2, _, hit2, hb2, rfl, by rw [e]; exact hn⟩, HM.out⟩
      · have hnx : ∀ ty, (Instr.next (.pointer (some ⟨w1.heap.size, 0, none⟩)) true ty).run Try.prog wr = _ := fun ty => Lib.run_next_end_at wr w1.heap.size s pos ty hit hp
        go_wp2
        rw [Exit.noGoto_ret]
        go_ret
        rw [hat.done hp]
        exact ⟨rfl, hb⟩
end Go.Proofs.Ytmbaeloiepjakaa

namespace Go.Proofs.Ytmbaeloiepjakaa
open Go.RowKit
end Go.Proofs.Ytmbaeloiepjakaa

namespace Go.Proofs.Ytmbaeloiepjakaa
open Go.RowKit
theorem two_cells {w w1 : World} {x y : Value} {T : TypeId} (hb : Below (w.alloc (.cells #[x, y] T)).heap.size (w.alloc (.cells #[x, y] T)) w1) :
    w1.cell? ⟨w.heap.size, 0, none⟩ = some x ∧ w1.cell? ⟨w.heap.size, 1, none⟩ = some y :=
  ⟨cell_later hb (by simp), cell_later hb (by simp)⟩
theorem two_later {w w1 : World} {x y : Value} {b : Nat} (hb : Below w.heap.size w w1) (h : w.cell? ⟨b, 0, none⟩ = some x ∧ w.cell? ⟨b, 1, none⟩ = some y) :
    w1.cell? ⟨b, 0, none⟩ = some x ∧ w1.cell? ⟨b, 1, none⟩ = some y :=
  ⟨cell_later hb h.1, cell_later hb h.2⟩
theorem below_box {w w1 : World} {o : Obj} (hb : Below (w.alloc o).heap.size (w.alloc o) w1) : Below w.heap.size w w1 :=
  ((Below.refl _ _).alloc (Nat.le_refl _) _).trans (hb.mono (by simp))
theorem below_two {w w1 w2 : World} (hb : Below w.heap.size w w1) (hb2 : Below w1.heap.size w1 w2) : Below w.heap.size w w2 := hb.trans (hb2.mono hb.size)
theorem four_cells {w w1 : World} {x y x' y' : Value} {T T' : TypeId} (hb : Below ((w.alloc (.cells #[x, y] T)).alloc (.cells #[x', y'] T')).heap.size ((w.alloc (.cells #[x, y] T)).alloc (.cells #[x', y'] T')) w1) :
    (w1.cell? ⟨w.heap.size, 0, none⟩ = some x ∧ w1.cell? ⟨w.heap.size, 1, none⟩ = some y) ∧ w1.cell? ⟨w.heap.size + 1, 0, none⟩ = some x' ∧ w1.cell? ⟨w.heap.size + 1, 1, none⟩ = some y' :=
  ⟨⟨cell_later hb (by simp), cell_later hb (by simp)⟩, cell_later hb (by simp), cell_later hb (by simp)⟩
theorem below_box2 {w w1 : World} {o o' : Obj} (hb : Below ((w.alloc o).alloc o').heap.size ((w.alloc o).alloc o') w1) : Below w.heap.size w w1 :=
  (((Below.refl _ _).alloc (Nat.le_refl _) _).alloc (by simp) _).trans (hb.mono (by simp; omega))
end Go.Proofs.Ytmbaeloiepjakaa
