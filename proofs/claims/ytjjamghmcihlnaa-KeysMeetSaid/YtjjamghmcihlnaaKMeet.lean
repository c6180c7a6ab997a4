/- KeysMeet: the walk. -/
import Derived.Test.YtjjamghmcihlnaaKLaws
import Derived.Test.YtjjamghmcihlnaaKWord
import Derived.Test.YtjjamghmcihlnaaKPlain4
set_option linter.unusedSimpArgs false
set_option linter.unusedVariables false
namespace Go.Proofs.Ytjjamghmcihlnaa
open Go.RowKit
/-- A new box of two texts, from block B on. -/
def IsBox (B : Nat) (x y : Value) (v : Value) (w : World) : Prop := ∃ b, v = .pointer (some ⟨b, 0, none⟩) ∧ B ≤ b ∧ w.heap[b]? = some (.cells #[x, y] 30)
theorem isBox_ext {B : Nat} {x y : Value} : Ev.Stable Ev.Ext (IsBox B x y) := fun v w w' h ⟨b, e, hb, hc⟩ => ⟨b, e, hb, by rw [h.block b (Array.getElem?_eq_some_iff.1 hc).1]; exact hc⟩
theorem box_of {w : World} {b : Nat} {x y : Value} {T : TypeId} (h : w.heap[b]? = some (.cells #[x, y] T)) : w.cell? ⟨b, 0, none⟩ = some x ∧ w.cell? ⟨b, 1, none⟩ = some y ∧ w.frozen? ⟨b, 0, none⟩ = false ∧ w.frozen? ⟨b, 1, none⟩ = false := by
  simp [World.cell?, World.frozen?, h]
theorem box_set1 {w : World} {b : Nat} {x y y' : Value} {T : TypeId} (h : w.heap[b]? = some (.cells #[x, y] T)) : (w.setCell ⟨b, 1, none⟩ y').heap[b]? = some (.cells #[x, y'] T) := by
  simp [World.setCell, Array.getElem?_modify, h]
theorem box_set2 {w : World} {b : Nat} {x y x' y' : Value} {T : TypeId} (h : w.heap[b]? = some (.cells #[x, y] T)) : ((w.setCell ⟨b, 0, none⟩ x').setCell ⟨b, 1, none⟩ y').heap[b]? = some (.cells #[x', y'] T) := by
  simp [World.setCell, Array.getElem?_modify, h]
theorem four_later {w w1 : World} {a b c d : Addr} {x y x' y' : Value} (hb : Below w.heap.size w w1) (h0 : w.cell? a = some x) (h1 : w.cell? b = some y) (h2 : w.cell? c = some x') (h3 : w.cell? d = some y') :
    w1.cell? a = some x ∧ w1.cell? b = some y ∧ w1.cell? c = some x' ∧ w1.cell? d = some y' := ⟨cell_later hb h0, cell_later hb h1, cell_later hb h2, cell_later hb h3⟩
theorem box_ext {w w' : World} {b : Nat} {o : Obj} (he : Ev.Ext w w') (h : w.heap[b]? = some o) : w'.heap[b]? = some o := by
  rw [he.block b (Array.getElem?_eq_some_iff.1 h).1]; exact h
theorem box_other {w : World} {b : Nat} {o : Obj} {p : Addr} {v : Value} (h : w.heap[b]? = some o) (hne : b ≠ p.block) : (w.setCell p v).heap[b]? = some o := by
  rw [Below.heap_setCell _ _ _ _ hne]; exact h
set_option maxHeartbeats 2000000 in
set_option maxRecDepth 100000 in
theorem meetlaw_walk (a b c d : Int) (p q : Bool) (w : World) :
    Calls Try.prog 6 #[.agg #[.int .i64 a, .int .i64 b, .int .i64 c, .int .i64 d], .agg #[.bool p, .bool q]] w fun e w' => e = .returned (.bool true) ∧ Below w.heap.size w w' := by
  go_enter Try.func6, Try.ntmps6
  go_wp2_with fail
  refine (awake_any _).mono ?_; rintro e w1 ⟨rfl, hb1⟩
  have a0 : w1.cell? ⟨w.heap.size, 0, none⟩ = some (.int .i64 a) := cell_later hb1 (by simp)
  have a1 : w1.cell? ⟨w.heap.size, 1, none⟩ = some (.int .i64 b) := cell_later hb1 (by simp)
  have a2 : w1.cell? ⟨w.heap.size, 2, none⟩ = some (.int .i64 c) := cell_later hb1 (by simp)
  have a3 : w1.cell? ⟨w.heap.size, 3, none⟩ = some (.int .i64 d) := cell_later hb1 (by simp)
  have p0 : w1.cell? ⟨w.heap.size + 1, 0, none⟩ = some (.bool p) := cell_later hb1 (by simp)
  have p1 : w1.cell? ⟨w.heap.size + 1, 1, none⟩ = some (.bool q) := cell_later hb1 (by simp)
  have hs1 : w.heap.size + 2 ≤ w1.heap.size := by have := hb1.size; simp at this; omega
  have hb0 := below_box2 hb1
  clear hb1
  go_wp2_with fail
  refine Ev.wp_region_tail (Ev.Ext _) (Ev.Ext) 8 (by kernel_rfl) (by kernel_rfl) Ev.Ext.refl (fun _ _ h k => k.trans h) (Ev.Ext.refl _).tick ?_
  simp only [List.take, List.drop]
  repeat
    first
    | (apply Ev.walk_eq
       · intro u wx hcx hfx
         have hk := two_later hcx ⟨a0, a1⟩
         try simp at hfx
         try go_simp
         first
           | rfl
           | (intro K hK
              try go_simp
              first
                | (refine hK _ ?_; first | exact Ev.Ext.refl _ | assumption)
                | (first | (go_at_call 19; refine (word_any _ _).mono ?_; rintro e wy ⟨rfl, hby⟩; exact ⟨_, rfl, hK _ hby⟩))))
    | ((refine Ev.walk_rel (IsBox w1.heap.size (.string ⟨#[]⟩) (.string ⟨#[]⟩)) isBox_ext ?_ ?_; (intro u wx hcx hfx; try simp at hfx; go_simp; intro K hK; refine hK _ _ ?_ ⟨_, rfl, hcx.size, heap_alloc_new _ _⟩; exact (Below.refl _ _).alloc (Nat.le_refl _) _)))
    try simp only [List.nil_append]
    try simp only [List.cons_append]
  intro u wx hcx hfx
  simp at hfx
  simp only [Ev.putU, Act.put, List.setIfInBounds_toArray, List.set_cons_zero, List.set_cons_succ]
  obtain ⟨e0, e1, e2, e3, e4, e5, e6, b1, e7, hB1, hc1⟩ := hfx
  simp only [e0, e1, e2, e3, e4, e5, e6, e7]
  clear e0 e1 e2 e3 e4 e5 e6 e7
  obtain ⟨x0, x1, z0, z1⟩ := box_of hc1
  go_wp2_with fail
  have B1 := box_set2 (x' := .string (K.word a)) (y' := .string (K.word b)) hc1
  have h2 : Below w1.heap.size w1 ((wx.setCell ⟨b1, 0, none⟩ (.string (K.word a))).setCell ⟨b1, 1, none⟩ (.string (K.word b))) := (hcx.setCell (p := ⟨b1, 0, none⟩) hB1 _).setCell (p := ⟨b1, 1, none⟩) hB1 _
  have g2 := cell_later h2 a2
  have g3 := cell_later h2 a3
  have q0 := cell_later h2 p0
  have q1 := cell_later h2 p1
  have hb2 := below_two hb0 h2
  have hs2 : b1 < ((wx.setCell ⟨b1, 0, none⟩ (.string (K.word a))).setCell ⟨b1, 1, none⟩ (.string (K.word b))).heap.size := (Array.getElem?_eq_some_iff.1 B1).1
  clear a0 a1 a2 a3 p0 p1 x0 x1 z0 z1 hc1 hcx h2 hb0
  generalize (wx.setCell ⟨b1, 0, none⟩ (.string (K.word a))).setCell ⟨b1, 1, none⟩ (.string (K.word b)) = W2 at *
  clear u
  refine Ev.wp_region_tail (Ev.Ext _) (Ev.Ext) 8 (by kernel_rfl) (by kernel_rfl) Ev.Ext.refl (fun _ _ h k => k.trans h) (Ev.Ext.refl _).tick ?_
  simp only [List.take, List.drop]
  repeat
    first
    | (apply Ev.walk_eq
       · intro u wx hcx hfx
         have hk := (⟨cell_later hcx g2, cell_later hcx g3⟩ : _ ∧ _)
         try simp at hfx
         try go_simp
         first
           | rfl
           | (intro K hK
              try go_simp
              first
                | (refine hK _ ?_; first | exact Ev.Ext.refl _ | assumption)
                | (first | (go_at_call 19; refine (word_any _ _).mono ?_; rintro e wy ⟨rfl, hby⟩; exact ⟨_, rfl, hK _ hby⟩))))
    | ((refine Ev.walk_rel (IsBox W2.heap.size (.string ⟨#[]⟩) (.string ⟨#[]⟩)) isBox_ext ?_ ?_; (intro u wx hcx hfx; try simp at hfx; go_simp; intro K hK; refine hK _ _ ?_ ⟨_, rfl, hcx.size, heap_alloc_new _ _⟩; exact (Below.refl _ _).alloc (Nat.le_refl _) _)))
    try simp only [List.nil_append]
    try simp only [List.cons_append]
  intro u wx hcx hfx
  simp at hfx
  simp only [Ev.putU, Act.put, List.setIfInBounds_toArray, List.set_cons_zero, List.set_cons_succ]
  obtain ⟨e0, e1, e2, e3, e4, e5, e6, b2, e7, hB2, hc2⟩ := hfx
  simp only [e0, e1, e2, e3, e4, e5, e6, e7]
  clear e0 e1 e2 e3 e4 e5 e6 e7
  obtain ⟨x0, x1, z0, z1⟩ := box_of hc2
  obtain ⟨y0, y1, v0, v1⟩ := box_of (box_ext hcx B1)
  have r0 := cell_later hcx q0
  have r1 := cell_later hcx q1
  have hs3 := hcx.size
  have hbx := below_two hb2 hcx
  have hn1 : b2 ≠ w.heap.size + 1 := by omega
  have hn2 : b2 ≠ b1 := by omega
  have hn3 : b1 ≠ b2 := by omega
  clear q0 q1 g2 g3
  cases p <;> cases q
  · have law := K.meet_law (f := K.word a) (t := (K.word b)) (f' := K.word c) (t' := (K.word d)) (K.may_word _) (K.may_word _) (K.may_word _) (K.may_word _)
    have sa := K.size_word a
    have sc := K.size_word c
    have sta := K.size_word b
    have stb := K.size_word d
    go_wp2_with fail
    refine (good_any _ _ sa sta _).mono ?_; rintro e w3 ⟨rfl, hb3⟩
    obtain ⟨f0, f1, _, _⟩ := box_of (box_ext hb3 (box_other (box_other (box_ext hcx B1) hn3) hn3))
    obtain ⟨f2, f3, _, _⟩ := box_of (box_ext hb3 (box_set2 (x' := .string (K.word c)) (y' := .string (K.word d)) hc2))
    have hbw : Below w.heap.size w w3 := below_two ((hbx.setCell (p := ⟨b2, 0, none⟩) (by show _ ≤ b2; omega) _).setCell (p := ⟨b2, 1, none⟩) (by show _ ≤ b2; omega) _) hb3
    clear hb3 x0 x1 z0 z1 y0 y1 v0 v1 r0 r1 hcx hs3 hc2 B1 hbx hb2
    unfold K.meetLaw at law
    generalize hA : K.word a = A at *
    clear hA
    generalize hC : K.word c = C at *
    clear hC
    cases hga : K.goodB A (K.word b) <;> cases hgb : K.goodB C (K.word d) <;> simp [hga, hgb] at law
    all_goals
      have LW := Lib.hid law
      clear law
      go_wp2_with (first | (go_at_call 20; refine (good_any _ _ (by assumption) (by assumption) _).mono ?_; rintro e w4 ⟨rfl, hb4⟩; have ff := four_later hb4 f0 f1 f2 f3; have hbw2 := below_two hbw hb4; clear f0 f1 f2 f3 hbw hb4; obtain ⟨f0, f1, f2, f3⟩ := ff; have hbw := hbw2; clear hbw2) | (go_at_call 21; refine (meet_any _ _ _ _ (by assumption) (by assumption) (by assumption) (by assumption) _).mono ?_; rintro e w4 ⟨rfl, hb4⟩; have ff := four_later hb4 f0 f1 f2 f3; have hbw2 := below_two hbw hb4; clear f0 f1 f2 f3 hbw hb4; obtain ⟨f0, f1, f2, f3⟩ := ff; have hbw := hbw2; clear hbw2) | (go_at_call 17; refine (has_any _ _ _ _).mono ?_; rintro e w4 ⟨rfl, hb4⟩; have ff := four_later hb4 f0 f1 f2 f3; have hbw2 := below_two hbw hb4; clear f0 f1 f2 f3 hbw hb4; obtain ⟨f0, f1, f2, f3⟩ := ff; have hbw := hbw2; clear hbw2))
      all_goals (go_ret; refine ⟨?_, hbw⟩; have law := LW.out; simp_all)
  · have law := K.meet_law (f := K.word a) (t := (K.word b)) (f' := K.word c) (t' := ⟨#[]⟩) (K.may_word _) (K.may_word _) (K.may_word _) K.may_nil
    have sa := K.size_word a
    have sc := K.size_word c
    have sta := K.size_word b
    have stb := K.size_nil
    go_wp2_with fail
    refine (good_any _ _ sa sta _).mono ?_; rintro e w3 ⟨rfl, hb3⟩
    obtain ⟨f0, f1, _, _⟩ := box_of (box_ext hb3 (box_other (p := ⟨b2, 1, none⟩) (box_other (box_other (box_ext hcx B1) hn3) hn3) hn3))
    obtain ⟨f2, f3, _, _⟩ := box_of (box_ext hb3 (box_set1 (y' := .string ⟨#[]⟩) (box_set2 (x' := .string (K.word c)) (y' := .string (K.word d)) hc2)))
    have hbw : Below w.heap.size w w3 := below_two (((hbx.setCell (p := ⟨b2, 0, none⟩) (by show _ ≤ b2; omega) _).setCell (p := ⟨b2, 1, none⟩) (by show _ ≤ b2; omega) _).setCell (p := ⟨b2, 1, none⟩) (by show _ ≤ b2; omega) _) hb3
    clear hb3 x0 x1 z0 z1 y0 y1 v0 v1 r0 r1 hcx hs3 hc2 B1 hbx hb2
    unfold K.meetLaw at law
    generalize hA : K.word a = A at *
    clear hA
    generalize hC : K.word c = C at *
    clear hC
    cases hga : K.goodB A (K.word b) <;> cases hgb : K.goodB C ⟨#[]⟩ <;> simp [hga, hgb] at law
    all_goals
      have LW := Lib.hid law
      clear law
      go_wp2_with (first | (go_at_call 20; refine (good_any _ _ (by assumption) (by assumption) _).mono ?_; rintro e w4 ⟨rfl, hb4⟩; have ff := four_later hb4 f0 f1 f2 f3; have hbw2 := below_two hbw hb4; clear f0 f1 f2 f3 hbw hb4; obtain ⟨f0, f1, f2, f3⟩ := ff; have hbw := hbw2; clear hbw2) | (go_at_call 21; refine (meet_any _ _ _ _ (by assumption) (by assumption) (by assumption) (by assumption) _).mono ?_; rintro e w4 ⟨rfl, hb4⟩; have ff := four_later hb4 f0 f1 f2 f3; have hbw2 := below_two hbw hb4; clear f0 f1 f2 f3 hbw hb4; obtain ⟨f0, f1, f2, f3⟩ := ff; have hbw := hbw2; clear hbw2) | (go_at_call 17; refine (has_any _ _ _ _).mono ?_; rintro e w4 ⟨rfl, hb4⟩; have ff := four_later hb4 f0 f1 f2 f3; have hbw2 := below_two hbw hb4; clear f0 f1 f2 f3 hbw hb4; obtain ⟨f0, f1, f2, f3⟩ := ff; have hbw := hbw2; clear hbw2))
      all_goals (go_ret; refine ⟨?_, hbw⟩; have law := LW.out; simp_all)
  · have law := K.meet_law (f := K.word a) (t := ⟨#[]⟩) (f' := K.word c) (t' := (K.word d)) (K.may_word _) K.may_nil (K.may_word _) (K.may_word _)
    have sa := K.size_word a
    have sc := K.size_word c
    have sta := K.size_nil
    have stb := K.size_word d
    go_wp2_with fail
    refine (good_any _ _ sa sta _).mono ?_; rintro e w3 ⟨rfl, hb3⟩
    obtain ⟨f0, f1, _, _⟩ := box_of (box_ext hb3 (box_set1 (y' := .string ⟨#[]⟩) (box_other (box_other (box_ext hcx B1) hn3) hn3)))
    obtain ⟨f2, f3, _, _⟩ := box_of (box_ext hb3 (box_other (p := ⟨b1, 1, none⟩) (box_set2 (x' := .string (K.word c)) (y' := .string (K.word d)) hc2) hn2))
    have hbw : Below w.heap.size w w3 := below_two (((hbx.setCell (p := ⟨b2, 0, none⟩) (by show _ ≤ b2; omega) _).setCell (p := ⟨b2, 1, none⟩) (by show _ ≤ b2; omega) _).setCell (p := ⟨b1, 1, none⟩) (by show _ ≤ b1; omega) _) hb3
    clear hb3 x0 x1 z0 z1 y0 y1 v0 v1 r0 r1 hcx hs3 hc2 B1 hbx hb2
    unfold K.meetLaw at law
    generalize hA : K.word a = A at *
    clear hA
    generalize hC : K.word c = C at *
    clear hC
    cases hga : K.goodB A ⟨#[]⟩ <;> cases hgb : K.goodB C (K.word d) <;> simp [hga, hgb] at law
    all_goals
      have LW := Lib.hid law
      clear law
      go_wp2_with (first | (go_at_call 20; refine (good_any _ _ (by assumption) (by assumption) _).mono ?_; rintro e w4 ⟨rfl, hb4⟩; have ff := four_later hb4 f0 f1 f2 f3; have hbw2 := below_two hbw hb4; clear f0 f1 f2 f3 hbw hb4; obtain ⟨f0, f1, f2, f3⟩ := ff; have hbw := hbw2; clear hbw2) | (go_at_call 21; refine (meet_any _ _ _ _ (by assumption) (by assumption) (by assumption) (by assumption) _).mono ?_; rintro e w4 ⟨rfl, hb4⟩; have ff := four_later hb4 f0 f1 f2 f3; have hbw2 := below_two hbw hb4; clear f0 f1 f2 f3 hbw hb4; obtain ⟨f0, f1, f2, f3⟩ := ff; have hbw := hbw2; clear hbw2) | (go_at_call 17; refine (has_any _ _ _ _).mono ?_; rintro e w4 ⟨rfl, hb4⟩; have ff := four_later hb4 f0 f1 f2 f3; have hbw2 := below_two hbw hb4; clear f0 f1 f2 f3 hbw hb4; obtain ⟨f0, f1, f2, f3⟩ := ff; have hbw := hbw2; clear hbw2))
      all_goals (go_ret; refine ⟨?_, hbw⟩; have law := LW.out; simp_all)
  · have law := K.meet_law (f := K.word a) (t := ⟨#[]⟩) (f' := K.word c) (t' := ⟨#[]⟩) (K.may_word _) K.may_nil (K.may_word _) K.may_nil
    have sa := K.size_word a
    have sc := K.size_word c
    have sta := K.size_nil
    have stb := K.size_nil
    go_wp2_with fail
    refine (good_any _ _ sa sta _).mono ?_; rintro e w3 ⟨rfl, hb3⟩
    obtain ⟨f0, f1, _, _⟩ := box_of (box_ext hb3 (box_other (p := ⟨b2, 1, none⟩) (box_set1 (y' := .string ⟨#[]⟩) (box_other (box_other (box_ext hcx B1) hn3) hn3)) hn3))
    obtain ⟨f2, f3, _, _⟩ := box_of (box_ext hb3 (box_set1 (y' := .string ⟨#[]⟩) (box_other (p := ⟨b1, 1, none⟩) (box_set2 (x' := .string (K.word c)) (y' := .string (K.word d)) hc2) hn2)))
    have hbw : Below w.heap.size w w3 := below_two ((((hbx.setCell (p := ⟨b2, 0, none⟩) (by show _ ≤ b2; omega) _).setCell (p := ⟨b2, 1, none⟩) (by show _ ≤ b2; omega) _).setCell (p := ⟨b1, 1, none⟩) (by show _ ≤ b1; omega) _).setCell (p := ⟨b2, 1, none⟩) (by show _ ≤ b2; omega) _) hb3
    clear hb3 x0 x1 z0 z1 y0 y1 v0 v1 r0 r1 hcx hs3 hc2 B1 hbx hb2
    unfold K.meetLaw at law
    generalize hA : K.word a = A at *
    clear hA
    generalize hC : K.word c = C at *
    clear hC
    cases hga : K.goodB A ⟨#[]⟩ <;> cases hgb : K.goodB C ⟨#[]⟩ <;> simp [hga, hgb] at law
    all_goals
      have LW := Lib.hid law
      clear law
      go_wp2_with (first | (go_at_call 20; refine (good_any _ _ (by assumption) (by assumption) _).mono ?_; rintro e w4 ⟨rfl, hb4⟩; have ff := four_later hb4 f0 f1 f2 f3; have hbw2 := below_two hbw hb4; clear f0 f1 f2 f3 hbw hb4; obtain ⟨f0, f1, f2, f3⟩ := ff; have hbw := hbw2; clear hbw2) | (go_at_call 21; refine (meet_any _ _ _ _ (by assumption) (by assumption) (by assumption) (by assumption) _).mono ?_; rintro e w4 ⟨rfl, hb4⟩; have ff := four_later hb4 f0 f1 f2 f3; have hbw2 := below_two hbw hb4; clear f0 f1 f2 f3 hbw hb4; obtain ⟨f0, f1, f2, f3⟩ := ff; have hbw := hbw2; clear hbw2) | (go_at_call 17; refine (has_any _ _ _ _).mono ?_; rintro e w4 ⟨rfl, hb4⟩; have ff := four_later hb4 f0 f1 f2 f3; have hbw2 := below_two hbw hb4; clear f0 f1 f2 f3 hbw hb4; obtain ⟨f0, f1, f2, f3⟩ := ff; have hbw := hbw2; clear hbw2))
      all_goals (go_ret; refine ⟨?_, hbw⟩; have law := LW.out; simp_all)
end Go.Proofs.Ytjjamghmcihlnaa
