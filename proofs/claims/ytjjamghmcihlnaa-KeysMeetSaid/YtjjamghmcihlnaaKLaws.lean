/- Keys: walks of the laws. -/
import Derived.Test.YtjjamghmcihlnaaKWalks3
import Derived.Test.YtjjamghmcihlnaaEv
namespace Go.Proofs.Ytjjamghmcihlnaa
open Go.RowKit
set_option maxHeartbeats 1000000 in
theorem checks_walk (s : ByteArray) (hs : s.size ≤ 9223372036854775807) (w : World) :
    Calls Try.prog 3 #[.string s] w fun e w' => e = .returned (.bool true) ∧ Below w.heap.size w w' := by
  go_enter Try.func3, Try.ntmps3
  go_wp2_with fail
  refine (awake_any _).mono ?_; rintro e w1 ⟨rfl, hb1⟩
  go_wp2_with fail
  refine (short_any s 40 (by omega) _).mono ?_; rintro e w' ⟨rfl, rfl⟩
  have hx : (s.extract 0 40).size ≤ 9223372036854775807 := by rw [ByteArray.size_extract]; omega
  go_wp2_with fail
  refine (check_any _ hx _).mono ?_; rintro e w2 ⟨rfl, hb2⟩
  go_wp2_with fail
  refine (rcheck_any _ hx _).mono ?_; rintro e w' ⟨rfl, rfl⟩
  go_wp2_with fail
  refine (runes_any _ hx _).mono ?_; rintro e w3 ⟨rfl, hb3⟩
  go_wp2_with fail
  refine (rruns_any _ hx _).mono ?_; rintro e w' ⟨rfl, rfl⟩
  go_wp2
  go_ret
  exact ⟨rfl, below_two (below_two hb1 hb2) hb3⟩
set_option maxHeartbeats 1000000 in
theorem order_walk (f t a b c : ByteArray) (w : World) :
    Calls Try.prog 5 #[.agg #[.string f, .string t], .agg #[.string a, .string b, .string c]] w fun e w' => e = .returned (.bool true) ∧ Below w.heap.size w w' := by
  go_enter Try.func5, Try.ntmps5
  go_wp2_with fail
  refine (awake_any _).mono ?_; rintro e w1 ⟨rfl, hb1⟩
  have c0 : w1.cell? ⟨w.heap.size, 0, none⟩ = some (.string f) := cell_later hb1 (by simp)
  have c1 : w1.cell? ⟨w.heap.size, 1, none⟩ = some (.string t) := cell_later hb1 (by simp)
  have a0 : w1.cell? ⟨w.heap.size + 1, 0, none⟩ = some (.string a) := cell_later hb1 (by simp)
  have a1 : w1.cell? ⟨w.heap.size + 1, 1, none⟩ = some (.string b) := cell_later hb1 (by simp)
  have a2 : w1.cell? ⟨w.heap.size + 1, 2, none⟩ = some (.string c) := cell_later hb1 (by simp)
  have z0 : w1.frozen? ⟨w.heap.size, 0, none⟩ = false := by rw [hb1.frozen (by simp; omega)]; simp
  have z1 : w1.frozen? ⟨w.heap.size, 1, none⟩ = false := by rw [hb1.frozen (by simp; omega)]; simp
  have hb0 := below_box2 hb1
  clear hb1
  go_wp2_with fail
  refine (short_any f 20 (by omega) _).mono ?_; rintro e w' ⟨rfl, rfl⟩
  go_wp2_with fail
  refine (short_any t 20 (by omega) _).mono ?_; rintro e w' ⟨rfl, rfl⟩
  go_wp2_with fail
  refine (short_any a 20 (by omega) _).mono ?_; rintro e w' ⟨rfl, rfl⟩
  go_wp2_with fail
  refine (short_any b 20 (by omega) _).mono ?_; rintro e w' ⟨rfl, rfl⟩
  go_wp2_with fail
  refine (short_any c 20 (by omega) _).mono ?_; rintro e w' ⟨rfl, rfl⟩
  have hb2 := (hb0.setCell (p := ⟨w.heap.size, 0, none⟩) (Nat.le_refl _) (.string (f.extract 0 20))).setCell (p := ⟨w.heap.size, 1, none⟩) (Nat.le_refl _) (.string (t.extract 0 20))
  have d0 : ((w1.setCell ⟨w.heap.size, 0, none⟩ (.string (f.extract 0 20))).setCell ⟨w.heap.size, 1, none⟩ (.string (t.extract 0 20))).cell? ⟨w.heap.size, 0, none⟩ = some (.string (f.extract 0 20)) := by go_simp
  have d1 : ((w1.setCell ⟨w.heap.size, 0, none⟩ (.string (f.extract 0 20))).setCell ⟨w.heap.size, 1, none⟩ (.string (t.extract 0 20))).cell? ⟨w.heap.size, 1, none⟩ = some (.string (t.extract 0 20)) := by go_simp
  clear c0 c1 a0 a1 a2 z0 z1 hb0
  have hno : ∀ q1 q2, K.hasB (f.extract 0 20) (t.extract 0 20) (a.extract 0 20) = true → K.hasB (f.extract 0 20) (t.extract 0 20) (c.extract 0 20) = true → K.hasB (f.extract 0 20) (t.extract 0 20) (b.extract 0 20) = true := fun q1 q2 h h' => K.has_between q1 q2 h h'
  have HN := Lib.hid hno
  clear hno
  generalize (f.extract 0 20) = f at *
  generalize (t.extract 0 20) = t at *
  generalize (a.extract 0 20) = a at *
  generalize (b.extract 0 20) = b at *
  generalize (c.extract 0 20) = c at *
  go_wp2_with (go_at_call 17; refine (has_any _ _ _ _).mono ?_; rintro e w3 ⟨rfl, hb3⟩; obtain ⟨d0, d1⟩ := two_later hb3 ⟨d0, d1⟩; have hb2 := below_two hb2 hb3; clear hb3)
  all_goals first
    | (exfalso; have := HN.out (by assumption) (by assumption) (by assumption) (by assumption); simp_all; done)
    | skip
  all_goals
    refine Ev.wp_region (Ev.Ext _) (Ev.Ext) (by kernel_rfl) (by kernel_rfl) Ev.Ext.refl (fun _ _ h k => k.trans h) (Ev.Ext.refl _).tick ?_
    repeat
      first
      | (apply Ev.walk_eq
         · intro u wx hcx hfx
           have hk := two_later hcx ⟨d0, d1⟩
           try simp at hfx
           try go_simp
           first
             | rfl
             | (intro K hK
                try go_simp
                first
                  | (refine hK _ ?_; first | exact Ev.Ext.refl _ | assumption)
                  | (first | (go_at_call 17; refine (has_any _ _ _ _).mono ?_; rintro e wy ⟨rfl, hby⟩; exact ⟨_, rfl, hK _ hby⟩) | (go_at_call 18; refine (rhas_any _ _ _ _).mono ?_; rintro e wy ⟨rfl, hby⟩; exact ⟨_, rfl, hK _ hby⟩))))
      | (fail)
      try simp only [List.nil_append]
      try simp only [List.cons_append]
    intro u wx hcx hfx
    simp at hfx
    simp only [Ev.putU, Act.put, List.setIfInBounds_toArray, List.set_cons_zero, List.set_cons_succ]
    go_wp2
    go_ret
    exact ⟨by simp_all, below_two hb2 hcx⟩
end Go.Proofs.Ytjjamghmcihlnaa
