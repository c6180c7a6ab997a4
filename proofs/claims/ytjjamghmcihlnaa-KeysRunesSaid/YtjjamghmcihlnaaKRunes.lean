/- KeysRunes: the walk. -/
import Derived.Test.YtjjamghmcihlnaaKLaws
import Derived.Test.YtjjamghmcihlnaaKPlain5
set_option linter.unusedSimpArgs false
set_option linter.unusedVariables false
namespace Go.Proofs.Ytjjamghmcihlnaa
open Go.RowKit
/-- A slice of ints, as it came. -/
def IsRow (w : World) (a : Option Addr) (len : Nat) (zs : List Int) : Prop :=
  (a = none ∧ len = 0) ∨ ∃ x : Addr, a = some x ∧ len ≤ zs.length ∧ len ≤ 9223372036854775807 ∧ (zs.length = 0 ∨ x.spot = none) ∧ (∀ i, i < zs.length → w.cell? ⟨x.block, x.off + i, none⟩ = some (.int .i64 (zs.getD i 0)))
theorem isRow_of {w : World} {x : Addr} {len : Nat} {zs : List Int} (hl : len ≤ zs.length) (hm : len ≤ 9223372036854775807) (hc : ∀ i, i < zs.length → w.cell? (x.add i) = some (.int .i64 (zs.getD i 0))) : IsRow w (some x) len zs := by
  by_cases h0 : zs.length = 0
  · exact .inr ⟨x, rfl, hl, hm, .inl h0, fun i hi => by omega⟩
  · obtain ⟨b, o, sp⟩ := x
    have h1 := hc 0 (by omega)
    have hsp : sp = none := by simpa [Addr.add] using World.cell?_spot h1
    subst hsp
    exact .inr ⟨_, rfl, hl, hm, .inr rfl, fun i hi => by
      have := hc i hi
      have e : (⟨b, o, none⟩ : Addr).add i = ⟨b, o + i, none⟩ := by unfold Addr.add; split <;> simp_all
      rwa [e] at this⟩
theorem idx6 (v : Int) : ∃ j : Nat, j < 6 ∧ (wrap64 (v.tmod 6 + 6)).tmod 6 = j := by
  have h1 := Int.tmod_lt_of_pos v (show (0 : Int) < 6 by decide)
  have h2 : -6 < v.tmod 6 := by
    have := Int.tmod_lt_of_pos (-v) (show (0 : Int) < 6 by decide)
    rw [Int.neg_tmod] at this
    omega
  have h3 : wrap64 (v.tmod 6 + 6) = v.tmod 6 + 6 := by unfold wrap64; omega
  rw [h3, Int.tmod_eq_emod_of_nonneg (by omega)]
  exact ⟨((v.tmod 6 + 6) % 6).toNat, by omega, by omega⟩
theorem cat1 (l : List UInt8) (c : UInt8) : (⟨l.toArray⟩ : ByteArray) ++ ⟨#[c]⟩ = ⟨(l ++ [c]).toArray⟩ := by apply ByteArray.ext; simp
set_option maxHeartbeats 2000000 in
set_option maxRecDepth 100000 in
theorem runeslaw_walk (a : Option Addr) (len cap : Nat) (zs : List Int) (w : World) (h : IsRow w a len zs) :
    Calls Try.prog 4 #[.slice a len cap] w fun e w' => e = .returned (.bool true) ∧ Below w.heap.size w w' := by
  go_enter Try.func4, Try.ntmps4
  go_wp2_with fail
  refine (awake_any _).mono ?_; rintro e w1 ⟨rfl, hb1⟩
  go_wp2_with fail
  have hB : Below w.heap.size w (w1.alloc (.cells #[.string ⟨#[97]⟩, .string ⟨#[195, 169]⟩, .string ⟨#[226, 130, 172]⟩, .string ⟨#[240, 159, 152, 128]⟩, .string ⟨#[126]⟩, .string ⟨#[239, 191, 191]⟩] 27)) := hb1.alloc hb1.size _
  have hA : ∀ j, j < 6 → (w1.alloc (.cells #[.string ⟨#[97]⟩, .string ⟨#[195, 169]⟩, .string ⟨#[226, 130, 172]⟩, .string ⟨#[240, 159, 152, 128]⟩, .string ⟨#[126]⟩, .string ⟨#[239, 191, 191]⟩] 27)).cell? ⟨w1.heap.size, j, none⟩ = some (.string ⟨(K.some6 j).toArray⟩) := fun j hj => by
    have : j = 0 ∨ j = 1 ∨ j = 2 ∨ j = 3 ∨ j = 4 ∨ j = 5 := by omega
    rcases this with rfl | rfl | rfl | rfl | rfl | rfl <;> simp [K.some6]
  have hcl : ∀ k, k < len → ∃ x : Addr, a = some x ∧ x.spot = none ∧ ∃ v, (w1.alloc (.cells #[.string ⟨#[97]⟩, .string ⟨#[195, 169]⟩, .string ⟨#[226, 130, 172]⟩, .string ⟨#[240, 159, 152, 128]⟩, .string ⟨#[126]⟩, .string ⟨#[239, 191, 191]⟩] 27)).cell? ⟨x.block, x.off + k, none⟩ = some (.int .i64 v) := fun k hk => by
    rcases h with ⟨_, h0⟩ | ⟨x, hx, hl, _, hsp, hc⟩
    · omega
    · exact ⟨x, hx, hsp.resolve_left (by omega), zs.getD k 0, cell_later hB (hc k (by omega))⟩
  have hlen : len ≤ 9223372036854775807 := by rcases h with ⟨_, h0⟩ | ⟨x, _, _, h1, _⟩ <;> omega
  clear h hb1
  generalize w1.heap.size = B at *
  generalize (w1.alloc (.cells #[.string ⟨#[97]⟩, .string ⟨#[195, 169]⟩, .string ⟨#[226, 130, 172]⟩, .string ⟨#[240, 159, 152, 128]⟩, .string ⟨#[126]⟩, .string ⟨#[239, 191, 191]⟩] 27)) = W at *
  have HC := Lib.hid hcl
  have HA := Lib.hid hA
  clear hcl hA
  go_loop [5, 6, 7] (fun s n i => ∃ (k : Nat) (l : List UInt8), s = .string ⟨l.toArray⟩ ∧ n = .int .i64 k ∧ i = .int .i64 k ∧ k ≤ len ∧ k ≤ 12 ∧ K.Made l k) (fun _ _ i => 12 - (intOf i).toNat)
  case atStart => exact ⟨0, [], rfl, rfl, rfl, by omega, by omega, .nil⟩
  case round =>
    obtain ⟨k, l, rfl, rfl, rfl, hk, hk2, hm⟩ := hrel
    have hsz := hm.small
    by_cases hlt : k < len
    · by_cases h12 : k < 12
      · obtain ⟨x, rfl, hsp, v, hv⟩ := HC.out k hlt
        obtain ⟨xb, xo, xs⟩ := x
        simp only at hsp hv
        subst hsp
        obtain ⟨j, hj, hq⟩ := idx6 v
        have hjc := HA.out j hj
        have hs6 := (K.piece [] [] j).2.2.2.1
        go_wp2
        go_round
        case rel => exact ⟨k + 1, l ++ K.some6 j, congrArg Value.string (by apply ByteArray.ext; simp), by go_num, by go_num, by omega, by omega, .snoc l k j hm⟩
        case measure => simp [intOf]; omega
      · have r1 := hm.count
        have r3 : K.runes (⟨l.toArray⟩ ++ ⟨#[255]⟩) = -1 := by rw [cat1]; exact hm.bad 255 (.inl rfl)
        have r4 : K.checkB (⟨l.toArray⟩ ++ ⟨#[32]⟩) = false := by rw [cat1]; exact hm.blank
        have r5 : K.checkB (⟨l.toArray⟩ ++ ⟨#[195]⟩) = false := by rw [cat1]; exact K.check_of_bad (hm.bad 195 (.inr rfl))
        have r2 := hm.check
        have s0 : (⟨l.toArray⟩ : ByteArray).size ≤ 9223372036854775807 := by rw [K.size_mid]; omega
        have s1 : ∀ c : UInt8, ((⟨l.toArray⟩ : ByteArray) ++ ⟨#[c]⟩).size ≤ 9223372036854775807 := fun c => by rw [cat1, K.size_mid]; simp; omega
        have t3 := s1 255
        have t4 := s1 32
        have t5 := s1 195
        clear HC HA s1
        by_cases q1 : 1 ≤ (k : Int)
        all_goals by_cases q2 : (k : Int) ≤ 8
        all_goals simp only [q1, q2, decide_true, decide_false, Bool.and_true, Bool.and_false] at r2
        all_goals try (exfalso; omega)
        all_goals
          go_wp2_with (first | (go_at_call 15; refine (runes_any _ (by assumption) _).mono ?_; rintro e w4 ⟨rfl, hb4⟩; have hbw2 := below_two hB hb4; clear hB hb4; have hB := hbw2; clear hbw2) | (go_at_call 13; refine (check_any _ (by assumption) _).mono ?_; rintro e w4 ⟨rfl, hb4⟩; have hbw2 := below_two hB hb4; clear hB hb4; have hB := hbw2; clear hbw2))
          all_goals (go_ret; exact ⟨by simp_all, hB⟩)

    · have r1 := hm.count
      have r3 : K.runes (⟨l.toArray⟩ ++ ⟨#[255]⟩) = -1 := by rw [cat1]; exact hm.bad 255 (.inl rfl)
      have r4 : K.checkB (⟨l.toArray⟩ ++ ⟨#[32]⟩) = false := by rw [cat1]; exact hm.blank
      have r5 : K.checkB (⟨l.toArray⟩ ++ ⟨#[195]⟩) = false := by rw [cat1]; exact K.check_of_bad (hm.bad 195 (.inr rfl))
      have r2 := hm.check
      have s0 : (⟨l.toArray⟩ : ByteArray).size ≤ 9223372036854775807 := by rw [K.size_mid]; omega
      have s1 : ∀ c : UInt8, ((⟨l.toArray⟩ : ByteArray) ++ ⟨#[c]⟩).size ≤ 9223372036854775807 := fun c => by rw [cat1, K.size_mid]; simp; omega
      have t3 := s1 255
      have t4 := s1 32
      have t5 := s1 195
      clear HC HA s1
      by_cases q1 : 1 ≤ (k : Int)
      all_goals by_cases q2 : (k : Int) ≤ 8
      all_goals simp only [q1, q2, decide_true, decide_false, Bool.and_true, Bool.and_false] at r2
      all_goals try (exfalso; omega)
      all_goals
        go_wp2_with (first | (go_at_call 15; refine (runes_any _ (by assumption) _).mono ?_; rintro e w4 ⟨rfl, hb4⟩; have hbw2 := below_two hB hb4; clear hB hb4; have hB := hbw2; clear hbw2) | (go_at_call 13; refine (check_any _ (by assumption) _).mono ?_; rintro e w4 ⟨rfl, hb4⟩; have hbw2 := below_two hB hb4; clear hB hb4; have hB := hbw2; clear hbw2))
        all_goals (go_ret; exact ⟨by simp_all, hB⟩)

end Go.Proofs.Ytjjamghmcihlnaa
