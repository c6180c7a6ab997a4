/- Walks of the reference's keys. -/
import Derived.Test.YtgoncpjgpkoacaaKWalks
namespace Go.Proofs.Ytgoncpjgpkoacaa
open Go.RowKit
set_option maxHeartbeats 400000 in
theorem long_any (n : Int) (h0 : 0 ≤ n) (h1 : n < 256) (w : World) :
    Calls Try.prog 80 #[.int .u8 n] w fun e w' => ∃ k, e = .returned (.int .i64 k) ∧ K.Hid' k (K.longI n) ∧ w = w' := by
  go_enter Try.func80, Try.ntmps80
  go_wp2
  all_goals (go_ret; refine ⟨_, rfl, ⟨?_⟩, rfl⟩; unfold K.longI; (repeat' split) <;> first | rfl | omega)
set_option maxHeartbeats 1000000 in
set_option maxRecDepth 100000 in
theorem rruns_any (s : ByteArray) (hs : s.size ≤ 9223372036854775807) (w : World) :
    Calls Try.prog 63 #[.string s] w fun e w' => e = .returned (.int .i64 (K.runes s)) ∧ w = w' := by
  go_enter Try.func63, Try.ntmps63
  go_wp2
  go_loop [2, 3, 4] (fun r n p => ∃ (pos k : Nat), r = .int .i64 0 ∧ n = .int .i64 k ∧ p = .int .i64 pos ∧ k ≤ pos ∧ pos ≤ s.size ∧ K.At s pos k) (fun _ _ p => s.size - (intOf p).toNat)
  case atStart => exact ⟨0, 0, rfl, rfl, rfl, Nat.le_refl _, Nat.zero_le _, K.At.start s⟩
  case round =>
    obtain ⟨pos, k, rfl, rfl, rfl, hk, hps, hat⟩ := hrel
    by_cases hp : pos < s.size
    · have hb := (s[pos]'hp).toNat_lt
      go_wp2_with fail
      refine (long_any _ (by omega) (by omega) _).mono ?_
      rintro e w' ⟨kk, rfl, HK, rfl⟩
      obtain ⟨hk0, hk4⟩ := K.longI_le HK
      by_cases hz : kk = 0
      · have hz1 : (kk == 0) = true := by rw [hz]; rfl
        have HZ := Lib.hid hz
        clear hz
        go_wp2
        go_ret
        rw [hat.rlong0 hp HK (.inl HZ.out)]
        exact ⟨rfl, rfl⟩
      have hz1 : (kk == 0) = false := by simpa using hz
      by_cases hgt : (s.size : Int) - pos < kk
      · go_wp2
        go_ret
        rw [hat.rlong0 hp HK (.inr (by assumption))]
        exact ⟨rfl, rfl⟩
      have hgt1 : decide ((s.size : Int) - pos < kk) = false := by simpa using hgt
      have hne : 1 ≤ kk := by omega
      have hle : kk ≤ (s.size : Int) - pos := by omega
      clear hz
      go_wp2
      go_loop [2, 6] (fun r i => r = .int .i64 0 ∧ ∃ j : Nat, i = .int .i64 j ∧ 1 ≤ j ∧ (j : Int) ≤ kk ∧ K.Conts s pos j) (fun _ i => 5 - (intOf i).toNat)
      case atStart => exact ⟨rfl, 1, rfl, by omega, by omega, K.Conts.start s pos⟩
      case round =>
        obtain ⟨rfl, j, rfl, hj1, hj2, hc⟩ := hrel
        by_cases hjl : (j : Int) < kk
        · have hjp : pos + j < s.size := by omega
          go_wp2
          · go_ret
            rw [hat.rcont hp hj1 HK hjl hjp (by assumption)]
            exact ⟨rfl, rfl⟩
          · go_round
            case rel => exact ⟨rfl, j + 1, by go_num, by omega, by omega, hc.next (by rw [← K.get_bt s _ hjp]; unfold K.contN; simp; omega)⟩
            case measure => simp [intOf]; omega
          · go_ret
            rw [hat.rcont hp hj1 HK hjl hjp (.inl (by assumption))]
            exact ⟨rfl, rfl⟩
        · obtain rfl : kk = j := by omega
          by_cases h224 : 224 ≤ ((s[pos]'hp).toNat : Int)
          · have hp1 : pos + 1 < s.size := by have := K.longI_big HK (by omega) h224; omega
            have hb1 := (s[pos + 1]'hp1).toNat_lt
            go_wp2
            all_goals first
              | (go_ret; rw [hat.rexc hp (by rw [← K.get_bt s _ hp, ← K.get_bt s _ hp1]; unfold K.exc; simp; omega)]; exact ⟨rfl, rfl⟩)
              | (go_round
                 case rel => exact ⟨pos + j, k + 1, rfl, by go_num, by go_num, by omega, by omega, hat.rnext hp HK (by omega) hle hc (by rw [← K.get_bt s _ hp, ← K.get_bt s _ hp1]; unfold K.exc; simp; omega)⟩
                 case measure => simp [intOf]; omega)
          · go_wp2
            go_round
            case rel => exact ⟨pos + j, k + 1, rfl, by go_num, by go_num, by omega, by omega, hat.rnext hp HK (by omega) hle hc (by rw [← K.get_bt s _ hp]; unfold K.exc; simp; omega)⟩
            case measure => simp [intOf]; omega
    · have : ¬ (pos : Int) < s.size := by omega
      go_wp2
      go_ret
      rw [hat.done hp]
      exact ⟨rfl, rfl⟩
end Go.Proofs.Ytgoncpjgpkoacaa
