/- KeysEdges: the walk. -/
import Derived.Test.YtjjamghmcihlnaaKLaws
import Derived.Test.YtjjamghmcihlnaaKPlain2
namespace Go.Proofs.Ytjjamghmcihlnaa
open Go.RowKit
set_option maxHeartbeats 1000000 in
theorem edges_walk (f t k : ByteArray) (hf : f.size ≤ 9223372036854775807) (ht : t.size ≤ 9223372036854775807) (w : World) :
    Calls Try.prog 7 #[.agg #[.string f, .string t], .string k] w fun e w' => e = .returned (.bool true) ∧ Below w.heap.size w w' := by
  go_enter Try.func7, Try.ntmps7
  go_wp2_with fail
  refine (awake_any _).mono ?_; rintro e w1 ⟨rfl, hb1⟩
  have c0 : w1.cell? ⟨w.heap.size, 0, none⟩ = some (.string f) := cell_later hb1 (by simp)
  have c1 : w1.cell? ⟨w.heap.size, 1, none⟩ = some (.string t) := cell_later hb1 (by simp)
  have z0 : w1.frozen? ⟨w.heap.size, 0, none⟩ = false := by rw [hb1.frozen (by simp)]; simp
  have z1 : w1.frozen? ⟨w.heap.size, 1, none⟩ = false := by rw [hb1.frozen (by simp)]; simp
  have hb0 := below_box hb1
  clear hb1
  go_wp2_with fail
  refine (short_any f 20 (by omega) _).mono ?_; rintro e w' ⟨rfl, rfl⟩
  go_wp2_with fail
  refine (short_any t 20 (by omega) _).mono ?_; rintro e w' ⟨rfl, rfl⟩
  have hx : (f.extract 0 20).size ≤ 9223372036854775807 := by rw [ByteArray.size_extract]; omega
  have hy : (t.extract 0 20).size ≤ 9223372036854775807 := by rw [ByteArray.size_extract]; omega
  have hb2 := (hb0.setCell (p := ⟨w.heap.size, 0, none⟩) (Nat.le_refl _) (.string (f.extract 0 20))).setCell (p := ⟨w.heap.size, 1, none⟩) (Nat.le_refl _) (.string (t.extract 0 20))
  have d0 : ((w1.setCell ⟨w.heap.size, 0, none⟩ (.string (f.extract 0 20))).setCell ⟨w.heap.size, 1, none⟩ (.string (t.extract 0 20))).cell? ⟨w.heap.size, 0, none⟩ = some (.string (f.extract 0 20)) := by go_simp
  have d1 : ((w1.setCell ⟨w.heap.size, 0, none⟩ (.string (f.extract 0 20))).setCell ⟨w.heap.size, 1, none⟩ (.string (t.extract 0 20))).cell? ⟨w.heap.size, 1, none⟩ = some (.string (t.extract 0 20)) := by go_simp
  have g3 := K.has_all k
  go_wp2_with fail
  clear c0 c1 hb0
  refine (good_any _ _ hx hy _).mono ?_; rintro e w2 ⟨rfl, hb3⟩
  have dd := two_later hb3 ⟨d0, d1⟩
  clear d0 d1
  obtain ⟨d0, d1⟩ := dd
  replace hb2 := below_two hb2 hb3
  clear hb3
  generalize f.extract 0 20 = f at *
  generalize t.extract 0 20 = t at *
  cases hg : K.goodB f t
  · go_wp2_with (go_at_call 17; refine (has_any _ _ _ _).mono ?_; rintro e w3 ⟨rfl, hb3⟩; have hb2 := below_two hb2 hb3; clear hb3)
    go_ret
    exact ⟨rfl, by assumption⟩
  · have g1 := K.has_from hg
    have g2 := K.meet_all hg
    have g4 : ∀ h : K.hasB f t k = true, Op.bytesLess k.toList f.toList = false := K.has_ge
    have G4 := Lib.hid g4
    clear g4
    cases htt : t.toList.isEmpty
    · have g5 := K.has_to (f := f) htt
      go_wp2_with (first | (go_at_call 17; refine (has_any _ _ _ _).mono ?_; rintro e w3 ⟨rfl, hb3⟩; obtain ⟨d0, d1⟩ := two_later hb3 ⟨d0, d1⟩; have hb2 := below_two hb2 hb3; clear hb3) | (go_at_call 21; refine (meet_any _ _ _ _ hx hy (by decide) (by decide) _).mono ?_; rintro e w3 ⟨rfl, hb3⟩; have hb2 := below_two hb2 hb3; clear hb3))
      all_goals first
        | (exfalso; have := G4.out (by assumption); simp_all; done)
        | (go_ret; exact ⟨rfl, by assumption⟩)
    · go_wp2_with (first | (go_at_call 17; refine (has_any _ _ _ _).mono ?_; rintro e w3 ⟨rfl, hb3⟩; obtain ⟨d0, d1⟩ := two_later hb3 ⟨d0, d1⟩; have hb2 := below_two hb2 hb3; clear hb3) | (go_at_call 21; refine (meet_any _ _ _ _ hx hy (by decide) (by decide) _).mono ?_; rintro e w3 ⟨rfl, hb3⟩; have hb2 := below_two hb2 hb3; clear hb3))
      all_goals first
        | (exfalso; have := G4.out (by assumption); simp_all; done)
        | (go_ret; exact ⟨rfl, by assumption⟩)
end Go.Proofs.Ytjjamghmcihlnaa
