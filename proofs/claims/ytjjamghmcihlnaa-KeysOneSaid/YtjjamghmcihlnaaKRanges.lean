/- KeysRanges: the walk. -/
import Derived.Test.YtjjamghmcihlnaaKOrd
import Derived.Test.YtjjamghmcihlnaaKPlain4
set_option linter.unusedSimpArgs false
set_option linter.unusedVariables false
namespace Go.Proofs.Ytjjamghmcihlnaa
open Go.RowKit R
theorem meet_same (f t f' t' : ByteArray) : K.meetB f t f' t' = K.rmeetB f t f' t' := by
  unfold K.meetB K.rmeetB
  cases g1 : K.goodB f t with
  | false => simp
  | true =>
  cases g2 : K.goodB f' t' with
  | false => simp
  | true =>
  have h1 : t.toList.isEmpty = true ∨ Op.bytesLess f.toList t.toList = true := by
    unfold K.goodB at g1; simp only [Bool.and_eq_true, Bool.or_eq_true] at g1; exact g1.2
  have h2 : t'.toList.isEmpty = true ∨ Op.bytesLess f'.toList t'.toList = true := by
    unfold K.goodB at g2; simp only [Bool.and_eq_true, Bool.or_eq_true] at g2; exact g2.2
  unfold K.hasB
  cases e1 : t.toList.isEmpty <;> cases e2 : t'.toList.isEmpty <;> cases l1 : Op.bytesLess f.toList t.toList <;> cases l2 : Op.bytesLess f'.toList t'.toList <;>
    cases a1 : Op.bytesLess f.toList f'.toList <;> cases a2 : Op.bytesLess f'.toList f.toList <;> cases b1 : Op.bytesLess f.toList t'.toList <;> cases b2 : Op.bytesLess f'.toList t.toList <;> simp_all
  all_goals first
    | (have := K.lt_asymm a1; rw [a2] at this; cases this; done)
    | (have := K.lt_of_le_lt (a := f.toList) (b := f'.toList) a2 l2; rw [b1] at this; cases this; done)
    | (have := K.lt_of_le_lt (a := f'.toList) (b := f.toList) a1 l1; rw [b2] at this; cases this; done)
    | skip
theorem rng_load {Kb : Blocks} {w w' : World} {v : Value} {l : List Rng} (h : Sl Kb w v l) (he : Ev.Ext w w') {b o : Nat} {cap : Nat} (hv : v = .slice (some ⟨b, o, none⟩) l.length cap) {i : Nat} (hi : i < l.length) :
    w'.cell? ⟨b, o + i * 2, none⟩ = some (.string l[i].f) ∧ w'.cell? ⟨b, o + i * 2 + 1, none⟩ = some (.string l[i].t) := by
  subst hv
  obtain ⟨b', o', e, _, _, _, c0, c1⟩ := (rng_cells h).2 i l[i] (by simp [hi])
  simp only [Option.some.injEq, Addr.mk.injEq, and_true] at e
  obtain ⟨rfl, rfl⟩ := e
  exact ⟨cell_later he c0, cell_later he c1⟩
set_option maxHeartbeats 4000000 in
set_option maxRecDepth 100000 in
theorem ranges_walk (v : Value) (l : List Rng) (key : ByteArray) (Kb : Blocks) (w : World) (h : Sl Kb w v l) :
    Calls Try.prog 9 #[v, .string key] w fun e w' => e = .returned (.bool true) ∧ Ev.Ext w w' := by
  go_enter Try.func9, Try.ntmps9
  go_wp2_with fail
  refine (awake_any _).mono ?_; rintro e w1 ⟨rfl, hb1⟩
  go_wp2_with fail
  refine (few_any v l Kb w1 (h.ext hb1)).mono ?_; rintro e w2 ⟨vm, rfl, hb2, hg⟩
  have hm : (fewR l).length ≤ 8 := by unfold fewR; simp; omega
  have hs := hg.sl (by omega)
  have hext : Ev.Ext w w2 := Ev.Ext.trans hb1 hb2
  obtain ⟨m, hmm⟩ : ∃ m, m = fewR l := ⟨_, rfl⟩
  rw [← hmm] at hs hm
  clear hg hmm hb1 hb2 h
  obtain ⟨a, cap, rfl⟩ := hs.form
  have hlen := hs.len_le
  go_wp2_with fail
  go_loopw [4, 7] (fun r i wr => ∃ (k : Nat), r = .bool false ∧ i = .int .i64 k ∧ k ≤ m.length ∧ Ev.Ext w2 wr) (fun _ i _ => m.length - (intOf i).toNat)
  case atStart => exact ⟨0, rfl, rfl, by omega, Ev.Ext.refl _⟩
  case round =>
    obtain ⟨k, rfl, rfl, hk, her⟩ := hrel
    by_cases h1 : k < m.length
    · obtain ⟨b, o, rfl, hKb, hs0, hs1, _, _⟩ := (rng_cells hs).2 k m[k] (by simp [h1])
      have h0 : 0 < m.length := by omega
      obtain ⟨b', o', eb, _, hz0, hz1, _, _⟩ := (rng_cells hs).2 0 m[0] (by simp [h0])
      simp only [Option.some.injEq, Addr.mk.injEq, and_true] at eb
      obtain ⟨rfl, rfl⟩ := eb
      have hci : (0 : Int) ≤ k ∧ (k : Int) < m.length := by omega
      have hzz := fun w' (he : Ev.Ext wr w') => rng_load hs (her.trans he) rfl h0
      simp only [Nat.zero_mul, Nat.add_zero] at hzz
      have LD := Lib.hid (fun w' (he : Ev.Ext wr w') => And.intro (rng_load hs (her.trans he) rfl h1) (hzz w' he))
      clear hzz
      go_wp2
      refine Ev.wp_region (Ev.Ext _) (Ev.Ext) (by kernel_rfl) (by kernel_rfl) Ev.Ext.refl (fun _ _ h k => k.trans h) (Ev.Ext.refl _).tick ?_
      repeat
        first
        | (apply Ev.walk_eq
           · intro u wx hcx hfx
             have hk4 := LD.out wx hcx
             try simp at hfx
             try go_simp
             first
               | rfl
               | (intro K hK
                  try go_simp
                  first
                    | (refine hK _ ?_; first | exact Ev.Ext.refl _ | assumption)
                    | (first | (go_at_call 20; refine (good_any _ _ hs0 hs1 _).mono ?_; rintro e wy ⟨rfl, hby⟩; exact ⟨_, rfl, hK _ hby⟩) | (go_at_call 25; refine (rgood_any _ _ hs0 hs1 _).mono ?_; rintro e wy ⟨rfl, hby⟩; exact ⟨_, rfl, hK _ hby⟩) | (go_at_call 17; refine (has_any _ _ _ _).mono ?_; rintro e wy ⟨rfl, hby⟩; exact ⟨_, rfl, hK _ hby⟩) | (go_at_call 18; refine (rhas_any _ _ _ _).mono ?_; rintro e wy ⟨rfl, hby⟩; exact ⟨_, rfl, hK _ hby⟩) | (go_at_call 21; refine (meet_any _ _ _ _ hz0 hz1 hs0 hs1 _).mono ?_; rintro e wy ⟨rfl, hby⟩; exact ⟨_, rfl, hK _ hby⟩) | (go_at_call 26; refine (rmeet_any _ _ _ _ hz0 hz1 hs0 hs1 _).mono ?_; rintro e wy ⟨rfl, hby⟩; rw [← meet_same]; exact ⟨_, rfl, hK _ hby⟩))))
        | (fail)
        try simp only [List.nil_append]
        try simp only [List.cons_append]
      intro u wx hcx hfx
      simp at hfx
      simp only [Ev.putU, Act.put, List.setIfInBounds_toArray, List.set_cons_zero, List.set_cons_succ]
      simp only [hfx]
      clear hfx
      go_wp2
      exact ⟨⟨k + 1, rfl, by go_num, by omega, her.trans hcx⟩, by simp [intOf]; omega⟩
    · obtain rfl : k = m.length := by omega
      have hsr := hs.ext her
      have hsame := bounds_same m
      have hl100 : m.length ≤ 100 := by omega
      have hbl := bounds_len m
      clear hs
      go_wp2_with fail
      refine (bounds_any _ m hl100 _ _ hsr).mono ?_; rintro e w3 ⟨v3, rfl, hb3, hs3⟩
      go_wp2_with fail
      refine (rbounds_any _ m hl100 _ _ (hsr.ext hb3)).mono ?_; rintro e w4 ⟨v4, rfl, hb4, hs4⟩
      have k3 := (hs3.ext hb4).mono (K' := fun _ => True) (w' := w4) (fun _ _ _ => ⟨trivial, rfl⟩)
      have k4 := hs4.mono (K' := fun _ => True) (w' := w4) (fun _ _ _ => ⟨trivial, rfl⟩)
      clear hs3 hs4
      go_wp2_with fail
      refine (rsame_any _ _ _ _ _ _ k3 k4).mono ?_; rintro e w5 ⟨rfl, hb5⟩
      rw [hsame]
      have e5 := (hb3.trans hb4).trans hb5
      have s5 := hsr.ext e5
      clear k3 k4 hsr hsame hbl
      go_wp2_with fail
      refine (whole_any _ m _ _ s5).mono ?_; rintro e w6 ⟨rfl, hb6⟩
      have s6 := s5.ext hb6
      clear s5
      go_wp2_with fail
      refine (rwhole_any _ m _ _ s6).mono ?_; rintro e w7 ⟨rfl, hb7⟩
      have s7 := s6.ext hb7
      clear s6
      go_wp2_with fail
      refine (find_any _ m key _ _ s7).mono ?_; rintro e w8 ⟨rfl, hb8⟩
      have s8 := s7.ext hb8
      clear s7
      go_wp2_with fail
      refine (rfind_any _ m key _ _ s8).mono ?_; rintro e w9 ⟨rfl, hb9⟩
      clear s8
      go_wp2
      go_ret
      exact ⟨by simp_all, (((((hext.trans her).trans e5).trans hb6).trans hb7).trans hb8).trans hb9⟩
end Go.Proofs.Ytjjamghmcihlnaa
