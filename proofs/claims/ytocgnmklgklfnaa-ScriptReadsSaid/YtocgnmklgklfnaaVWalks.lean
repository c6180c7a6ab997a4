/- Numbers' bytes: the walks. -/
import Derived.Test.YtocgnmklgklfnaaVPlain
import Derived.Test.YtocgnmklgklfnaaShelf
import Derived.Test.YtocgnmklgklfnaaEv
import Derived.WalkKit
import Derived.WalkSpells
import Derived.WalkLawsBesides
import Derived.BigQuiet
import Derived.Deep.QuietTactic
import Derived.Lib.Hide
set_option linter.unusedSimpArgs false
set_option linter.unusedVariables false
namespace Go.Proofs.Ytocgnmklgklfnaa
open Go.RowKit
abbrev IsB (B b : Nat) (l : List UInt8) (w : World) : Prop := Lib.IsBuilder 57 5 B b (Lib.byteCells l) w
theorem isB_of {B b : Nat} {p : Value} {l : List UInt8} {w : World} (h : Lib.BuilderAt 57 5 B b (.pointer (some ⟨b, 0, none⟩)) (Lib.byteCells l) w) : IsB B b l w := .inr h
theorem byte_any (B b : Nat) (l : List UInt8) (c : Nat) (hc : c < 256) (ci : Int) (hci : ci = c) (w : World) (h : IsB B b l w) (hlen : l.length + 1 ≤ 140737488355328) (hBw : B ≤ w.heap.size) :
    Calls Try.prog 64 #[.pointer (some ⟨b, 0, none⟩), .int .u8 ci] w fun e w' => e = .returned .nilIface ∧ IsB B b (l ++ [UInt8.ofNat c]) w' ∧ Below B w w' := by
  subst hci
  refine (Try.Builder_WriteByte B b (Lib.byteCells l) c w h (by rw [Lib.byteCells_length]; exact hlen) hBw).mono ?_
  rintro e w' ⟨rfl, h1, h2⟩
  refine ⟨rfl, .inr ?_, h2⟩
  have e : Lib.byteCells (l ++ [UInt8.ofNat c]) = Lib.byteCells l ++ [.int .u8 c] := by
    rw [Lib.byteCells_append]; simp [Lib.byteCells]; omega
  rw [e]; exact h1
theorem str_any (B b : Nat) (l : List UInt8) (s : ByteArray) (w : World) (h : IsB B b l w) (hlen : l.length + s.size ≤ 140737488355328) (hBw : B ≤ w.heap.size) :
    Calls Try.prog 26 #[.pointer (some ⟨b, 0, none⟩), .string s] w fun e w' => e = .returned (.tuple #[.int .i64 s.size, .nilIface]) ∧ IsB B b (l ++ s.data.toList) w' ∧ Below B w w' := by
  refine (Try.Builder_WriteString B b (Lib.byteCells l) s w h (by rw [Lib.byteCells_length]; exact hlen) hBw).mono ?_
  rintro e w' ⟨rfl, h1, h2⟩
  refine ⟨rfl, .inr ?_, h2⟩
  rw [Lib.byteCells_append]; exact h1
set_option maxHeartbeats 1000000 in
set_option maxRecDepth 100000 in
theorem put_any (B b : Nat) (l : List UInt8) (n : Nat) (hn : n < 18446744073709551616) (w : World) (h : IsB B b l w) (hlen : l.length + 10 ≤ 140737488355328) (hBw : B ≤ w.heap.size) :
    Calls Try.prog 55 #[.pointer (some ⟨b, 0, none⟩), .int .u64 n] w fun e w' => e = .returned (.tuple #[]) ∧ IsB B b (l ++ V.num n) w' ∧ Below B w w' := by
  have h10 := V.num_len64 hn
  go_enter Try.func55, Try.ntmps55
  go_wp2_with fail
  go_loopw [1] (fun v wr => ∃ (k : Nat) (m : List UInt8), v = .int .u64 k ∧ k < 18446744073709551616 ∧ l ++ V.num n = m ++ V.num k ∧ IsB B b m wr ∧ Below B w wr) (fun v _ => (intOf v).toNat)
  case atStart => exact ⟨n, l, rfl, hn, rfl, h, Below.refl _ _⟩
  case round =>
    obtain ⟨k, m, rfl, hk, hm, hB, hb⟩ := hrel
    have hml : m.length + 1 ≤ 140737488355328 := by
      have := congrArg List.length hm
      have := V.num_pos k
      simp at *; omega
    have hBr : B ≤ wr.heap.size := Nat.le_trans hBw hb.size
    by_cases h1 : k < 128
    · have hz := V.num_small h1
      go_wp2_with fail
      refine (byte_any B b m k (by omega) _ rfl wr hB hml hBr).mono ?_; rintro e w3 ⟨rfl, h3, hb3⟩
      go_wp2
      go_end0
      exact ⟨rfl, by rw [hm, hz]; exact h3, hb.trans hb3⟩
    · have ho := V.or128 k
      have hz := V.num_big h1
      go_wp2_with fail
      refine (byte_any B b m (128 + k % 128) (by omega) _ (by omega) wr hB hml hBr).mono ?_; rintro e w3 ⟨rfl, h3, hb3⟩
      go_wp2
      go_roundw
      case rel => exact ⟨k / 128, m ++ [UInt8.ofNat (128 + k % 128)], by go_num, by omega, by rw [hm, hz]; simp, h3, hb.trans hb3⟩
      case measure => simp [intOf]; omega
end Go.Proofs.Ytocgnmklgklfnaa
