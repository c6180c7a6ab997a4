/- Stamps: the walks. -/
import Derived.Test.YtbdejgbjelfbeaaVNum
set_option linter.unusedSimpArgs false
set_option linter.unusedVariables false
namespace Go.Proofs.Ytbdejgbjelfbeaa
open Go.RowKit R
namespace V
def stampB (n s : Int) : Bool := decide (1 ≤ n) && (decide (n ≤ 1099511627776) && (decide (0 ≤ s) && decide (s < 6)))
def stamp (n s : Int) : List UInt8 := if stampB n s then num n.toNat ++ num s.toNat else []
theorem stampB_iff {n s : Int} : stampB n s = true ↔ 1 ≤ n ∧ n ≤ 1099511627776 ∧ 0 ≤ s ∧ s < 6 := by simp [stampB]
end V
theorem rnumber_z (z : Int) (n : Nat) (hn : n < 18446744073709551616) (hz : z = n) (w : World) :
    Calls Try.prog 40 #[.int .u64 z] w fun e w' => e = .returned (.string (V.ba (V.num n))) ∧ Ev.Ext w w' := by
  subst hz; exact rnumber_any n hn w
set_option maxRecDepth 100000 in
theorem rtext_any (s : ByteArray) (hs : s.size ≤ 1000000) (w : World) :
    Calls Try.prog 64 #[.string s] w fun e w' => e = .returned (.string (V.ba (V.text s))) ∧ Ev.Ext w w' := by
  have h10 := V.num_len64 (n := s.size) (by omega)
  go_enter Try.func64, Try.ntmps64
  go_wp2_with fail
  refine (rnumber_any s.size (by omega) _).mono ?_; rintro e w3 ⟨rfl, hb3⟩
  go_wp2
  go_ret
  exact ⟨by unfold V.text; rw [← V.ba_append, V.ba_data]; rfl, hb3⟩
set_option maxRecDepth 100000 in
theorem stcheck_any (n s : Int) (w : World) :
    Calls Try.prog 32 #[.agg #[.int .i64 n, .int .i64 s]] w fun e w' => e = .returned (.bool (V.stampB n s)) ∧ Ev.Ext w w' := by
  go_enter Try.func32, Try.ntmps32
  go_wp2
  all_goals (go_ret; exact ⟨by first | (simp_all [V.stampB]; done) | (simp_all [V.stampB]; omega), ext_alloc' _ _⟩)
set_option maxRecDepth 100000 in
theorem rstcheck_any (n s : Int) (w : World) :
    Calls Try.prog 35 #[.agg #[.int .i64 n, .int .i64 s]] w fun e w' => e = .returned (.bool (V.stampB n s)) ∧ Ev.Ext w w' := by
  go_enter Try.func35, Try.ntmps35
  go_wp2
  all_goals (go_ret; exact ⟨by first | (simp_all [V.stampB]; done) | (simp_all [V.stampB]; omega), ext_alloc' _ _⟩)
set_option maxRecDepth 100000 in
set_option maxHeartbeats 1000000 in
theorem stbytes_any (n s : Int) (w : World) :
    Calls Try.prog 51 #[.agg #[.int .i64 n, .int .i64 s]] w fun e w' => e = .returned (.string (V.ba (V.stamp n s))) ∧ Ev.Ext w w' := by
  cases hb : V.stampB n s
  · have hc := stcheck_any n s
    rw [hb] at hc
    have HC := Lib.hid hc
    clear hc
    have hz : V.stamp n s = [] := by simp [V.stamp, hb]
    go_enter Try.func51, Try.ntmps51
    go_wp2_with fail
    refine (HC.out _).mono ?_; rintro e w3 ⟨rfl, hb3⟩
    go_wp2
    go_ret
    exact ⟨by rw [hz]; rfl, (ext_alloc' _ _).trans hb3⟩
  · have hc := stcheck_any n s
    rw [hb] at hc
    have HC := Lib.hid hc
    clear hc
    obtain ⟨a1, a2, a3, a4⟩ := V.stampB_iff.1 hb
    have hz : V.stamp n s = V.num n.toNat ++ V.num s.toNat := by simp [V.stamp, hb]
    obtain ⟨n', rfl⟩ : ∃ n' : Nat, n = n' := ⟨n.toNat, by omega⟩
    obtain ⟨s', rfl⟩ : ∃ s' : Nat, s = s' := ⟨s.toNat, by omega⟩
    have HZ := Lib.hid hz
    clear hz hb
    go_enter Try.func51, Try.ntmps51
    go_wp2_with fail
    refine (HC.out _).mono ?_; rintro e w3 ⟨rfl, hb3⟩
    have c0 : w3.cell? ⟨w.heap.size, 0, none⟩ = some (.int .i64 n') := cell_later hb3 (by simp)
    have c1 : w3.cell? ⟨w.heap.size, 1, none⟩ = some (.int .i64 s') := cell_later hb3 (by simp)
    go_wp2_with fail
    refine (join_any (some ⟨w3.heap.size, 0, none⟩) 2 [n', s'] (by simp) _ ?_).mono ?_
    · intro i m hm
      match i with
      | 0 => simp at hm; subst hm; exact ⟨by omega, _, _, rfl, by simp⟩
      | 1 => simp at hm; subst hm; exact ⟨by omega, _, _, rfl, by simp⟩
      | (i + 2) => simp at hm
    rintro e w4 ⟨rfl, hb4⟩
    go_wp2
    go_ret
    exact ⟨by rw [HZ.out]; simp, ((ext_alloc' _ _).trans hb3).trans ((ext_alloc' _ _).trans hb4)⟩
set_option maxRecDepth 100000 in
set_option maxHeartbeats 1000000 in
theorem rstbytes_any (n s : Int) (w : World) :
    Calls Try.prog 65 #[.agg #[.int .i64 n, .int .i64 s]] w fun e w' => e = .returned (.string (V.ba (V.stamp n s))) ∧ Ev.Ext w w' := by
  have hc := rstcheck_any n s
  cases hb : V.stampB n s
  all_goals
    rw [hb] at hc
    have HC := Lib.hid hc
    clear hc
  · have hz : V.stamp n s = [] := by simp [V.stamp, hb]
    go_enter Try.func65, Try.ntmps65
    go_wp2_with fail
    refine (HC.out _).mono ?_; rintro e w3 ⟨rfl, hb3⟩
    go_wp2
    go_ret
    exact ⟨by rw [hz]; rfl, (ext_alloc' _ _).trans hb3⟩
  · obtain ⟨a1, a2, a3, a4⟩ := V.stampB_iff.1 hb
    have hz : V.stamp n s = V.num n.toNat ++ V.num s.toNat := by simp [V.stamp, hb]
    obtain ⟨n', rfl⟩ : ∃ n' : Nat, n = n' := ⟨n.toNat, by omega⟩
    obtain ⟨s', rfl⟩ : ∃ s' : Nat, s = s' := ⟨s.toNat, by omega⟩
    have HZ := Lib.hid hz
    clear hz hb
    have l1 := V.num_len64 (n := n') (by omega)
    have l2 := V.num_len64 (n := s') (by omega)
    have hno : ¬ 9223372036854775807 < (V.num n').length + (V.num s').length := by omega
    go_enter Try.func65, Try.ntmps65
    go_wp2_with fail
    refine (HC.out _).mono ?_; rintro e w3 ⟨rfl, hb3⟩
    have c0 : w3.cell? ⟨w.heap.size, 0, none⟩ = some (.int .i64 n') := cell_later hb3 (by simp)
    have c1 : w3.cell? ⟨w.heap.size, 1, none⟩ = some (.int .i64 s') := cell_later hb3 (by simp)
    go_wp2_with fail
    refine Ev.wp_region (Ev.Ext _) (Ev.Ext) (by kernel_rfl) (by kernel_rfl) Ev.Ext.refl (fun _ _ h k => k.trans h) (Ev.Ext.refl _).tick ?_
    repeat
      first
      | (apply Ev.walk_eq
         · intro u wx hcx hfx
           have hk := And.intro (cell_later hcx c0) (cell_later hcx c1)
           try simp at hfx
           try go_simp
           first
             | rfl
             | (intro K hK
                try go_simp
                first
                  | (refine hK _ ?_; first | exact Ev.Ext.refl _ | assumption)
                  | (first | (go_at_call 40; refine (rnumber_z _ n' (by omega) (by first | rfl | (simp only [IntKind.wrap_u64]; omega)) _).mono ?_; rintro e wy ⟨rfl, hby⟩; exact ⟨_, rfl, hK _ hby⟩) | (go_at_call 40; refine (rnumber_z _ s' (by omega) (by first | rfl | (simp only [IntKind.wrap_u64]; omega)) _).mono ?_; rintro e wy ⟨rfl, hby⟩; exact ⟨_, rfl, hK _ hby⟩))))
      | (fail)
      try simp only [List.nil_append]
      try simp only [List.cons_append]
    intro u wx hcx hfx
    simp at hfx
    simp only [Ev.putU, Act.put, List.setIfInBounds_toArray, List.set_cons_zero, List.set_cons_succ]
    simp only [hfx]
    clear hfx
    go_wp2
    go_ret
    exact ⟨by rw [HZ.out, ← V.ba_append]; rfl, ((ext_alloc' _ _).trans hb3).trans hcx⟩
end Go.Proofs.Ytbdejgbjelfbeaa
