/- KeysBounds: the walk. -/
import Derived.Test.YtjjamghmcihlnaaKOrd
set_option linter.unusedSimpArgs false
set_option linter.unusedVariables false
namespace Go.Proofs.Ytjjamghmcihlnaa
open Go.RowKit R
theorem has_rev (m : List Rng) (x : List UInt8) : Has m.reverse x ↔ Has m x := by simp [Has]
theorem bounds_rev (m : List Rng) : sameS (boundsF m) (boundsF m.reverse) = true :=
  sameS_of_dat _ _ (rising_unique _ _ (bounds_spec m).1 (bounds_spec m.reverse).1 fun x => by rw [(bounds_spec m).2, (bounds_spec m.reverse).2, has_rev])
def fnd (m : List Rng) (s : ByteArray) : Bool := m.any fun r => r.f.toList == s.toList || r.t.toList == s.toList
theorem fnd_snoc {m : List Rng} {k : Nat} (hk : k < m.length) (s : ByteArray) : fnd (m.take (k + 1)) s = (fnd (m.take k) s || (m[k].f.toList == s.toList || m[k].t.toList == s.toList)) := by
  unfold fnd
  rw [List.take_succ_eq_append_getElem hk, List.any_append]
  simp
theorem bounds_at {m : List Rng} {i : Nat} (hi : i < (boundsF m).length) : fnd m (boundsF m)[i] = true ∧ (boundsF m)[i].toList.isEmpty = false := by
  have hx : (boundsF m)[i].data.toList ∈ dat (boundsF m) := List.mem_map.2 ⟨_, List.getElem_mem hi, rfl⟩
  obtain ⟨hne, r, hr, h⟩ := ((bounds_spec m).2 _).1 hx
  refine ⟨List.any_eq_true.2 ⟨r, hr, ?_⟩, ?_⟩
  · simp only [ByteArray.toList_eq, Bool.or_eq_true, beq_iff_eq]
    exact h.imp Eq.symm Eq.symm
  · rw [ByteArray.toList_eq]
    cases hl : (boundsF m)[i].data.toList with
    | nil => exact absurd hl hne
    | cons => rfl
theorem bounds_rise {m : List Rng} {i : Nat} (h0 : 0 < i) (hi : i < (boundsF m).length) : Op.bytesLess ((boundsF m)[i - 1]'(by omega)).toList (boundsF m)[i].toList = true := by
  have h := (bounds_spec m).1
  rw [List.pairwise_iff_getElem] at h
  have := h (i - 1) i (by simp [dat]; omega) (by simp [dat]; omega) (by omega)
  simpa [dat, ByteArray.toList_eq, LT'] using this
theorem str_load {Kb : Blocks} {w w' : World} {v : Value} {l : List ByteArray} (h : Sl Kb w v l) (he : Ev.Ext w w') {i : Nat} (hi : i < l.length) : ∃ b o cap, v = .slice (some ⟨b, o, none⟩) l.length cap ∧ w'.cell? ⟨b, o + i, none⟩ = some (.string l[i]) := by
  obtain ⟨a, cap, rfl⟩ := h.form
  obtain ⟨b, o, rfl, _, _, c0⟩ := (str_cells h).2 i l[i] (by simp [hi])
  exact ⟨b, o, cap, rfl, cell_later he c0⟩
set_option maxHeartbeats 4000000 in
set_option maxRecDepth 100000 in
theorem boundslaw_walk (v : Value) (l : List Rng) (Kb : Blocks) (w : World) (h : Sl Kb w v l) :
    Calls Try.prog 8 #[v] w fun e w' => e = .returned (.bool true) ∧ Ev.Ext w w' := by
  go_enter Try.func8, Try.ntmps8
  go_wp2_with fail
  refine (awake_any _).mono ?_; rintro e w1 ⟨rfl, hb1⟩
  go_wp2_with fail
  refine (few_any v l Kb w1 (h.ext hb1)).mono ?_; rintro e w2 ⟨vm, rfl, hb2, hg⟩
  have hm : (fewR l).length ≤ 8 := by unfold fewR; simp; omega
  have hs0 := hg.sl (by omega)
  have hext : Ev.Ext w w2 := Ev.Ext.trans hb1 hb2
  obtain ⟨m, hmm⟩ : ∃ m, m = fewR l := ⟨_, rfl⟩
  rw [← hmm] at hs0 hm
  have hs := hs0.mono (K' := fun b => b < w2.heap.size) (w' := w2) (fun b _ hlt => ⟨hlt, rfl⟩)
  clear hg hmm hb1 hb2 h hs0
  obtain ⟨a, cap, rfl⟩ := hs.form
  have hlen := hs.len_le
  go_wp2_with fail
  go_loopw [5, 6] (fun o i wr => ∃ (k : Nat), i = .int .i64 ((m.length : Int) - 1 - k) ∧ k ≤ m.length ∧ Ev.Ext w2 wr ∧ Grow 30 (fun b => b < w2.heap.size) w2.heap.size wr o ((m.drop (m.length - k)).reverse)) (fun _ i _ => (intOf i + 1).toNat)
  case atStart => exact ⟨0, by simp, by omega, Ev.Ext.refl _, by simpa using Grow.nil _ _ _ _⟩
  case round =>
    obtain ⟨k, rfl, hk, her, hg⟩ := hrel
    by_cases h1 : k < m.length
    · obtain ⟨j, hj⟩ : ∃ j : Nat, (m.length : Int) - 1 - k = j := ⟨m.length - 1 - k, by omega⟩
      have hjl : j < m.length := by omega
      obtain ⟨b, o, rfl, hKb, hs0, hs1, c0, c1⟩ := (rng_cells hs).2 j m[j] (by simp [hjl])
      have c0 := cell_later her c0
      have c1 := cell_later her c1
      have hjj : j = m.length - 1 - k := by omega
      rw [hj]
      have HJ := Lib.hid hj
      have HJ2 := Lib.hid hjj
      clear hj hjj
      go_wp2_with (at_builtin; refine R.wpList_append rfl _ _ 40 rfl rng_elem _ _ rfl (hg.ext (ext_alloc _ _)) ⟨_, 0, none⟩ 1 [m[j]] rfl [[.string m[j].f, .string m[j].t]] (.cons ⟨rfl, hs0, hs1⟩ .nil) (row_cells (heap_alloc_new _ _)) (by simp [maxLen]; omega) (by simp; omega) (Nat.le_trans her.size (ext_alloc _ _).size) ?_; intro v1 w1' hg1 hgb1)
      have hext2 : Ev.Ext w2 w1' := grown_below (her.trans (ext_alloc _ _)) hgb1 (Nat.le_trans her.size (ext_alloc _ _).size) hg.base
      refine ⟨⟨k + 1, ?_, by omega, hext2, ?_⟩, ?_⟩
      · have := HJ.out; first | (congr 1; omega) | (simp; omega)
      · have e : (m.drop (m.length - (k + 1))).reverse = (m.drop (m.length - k)).reverse ++ [m[j]] := by
          have := HJ2.out
          rw [show m.length - (k + 1) = j from by omega, List.drop_eq_getElem_cons hjl, show j + 1 = m.length - k from by omega, List.reverse_cons]
        rw [e]; exact hg1
      · have := HJ.out; first | (simp [intOf]; done) | (simp [intOf]; omega)
    · obtain rfl : k = m.length := by omega
      rw [Nat.sub_self, List.drop_zero] at hg
      have hsr := hg.sl (by simp; omega)
      have hmr := hs.ext her
      have hl100 : m.length ≤ 100 := by omega
      have hl101 : m.reverse.length ≤ 100 := by simp; omega
      have hbl := bounds_len m
      have hsame := bounds_rev m
      have hneg : ¬ (0 : Int) ≤ (m.length : Int) - 1 - m.length := by omega
      clear hg hs
      go_wp2_with fail
      refine (bounds_any _ m hl100 _ _ hmr).mono ?_; rintro e w3 ⟨v3, rfl, hb3, hs3⟩
      go_wp2_with fail
      refine (bounds_any _ m.reverse hl101 _ _ (hsr.ext hb3)).mono ?_; rintro e w4 ⟨v4, rfl, hb4, hs4⟩
      have k3 := (hs3.ext hb4).mono (K' := fun _ => True) (w' := w4) (fun _ _ _ => ⟨trivial, rfl⟩)
      have k4 := hs4.mono (K' := fun _ => True) (w' := w4) (fun _ _ _ => ⟨trivial, rfl⟩)
      clear hs3 hs4
      go_wp2_with fail
      refine (rsame_any _ _ _ _ _ _ k3 k4).mono ?_; rintro e w5 ⟨rfl, hb5⟩
      rw [hsame]
      have e5 := (her.trans hb3).trans (hb4.trans hb5)
      have m5 := hmr.ext ((hb3.trans hb4).trans hb5)
      have s5 := k3.ext hb5
      clear k3 k4 hsr hmr hsame
      obtain ⟨B, hB⟩ : ∃ B, B = boundsF m := ⟨_, rfl⟩
      have hat : ∀ i (hi : i < B.length), fnd m B[i] = true ∧ B[i].toList.isEmpty = false := by rw [hB]; exact fun i hi => bounds_at hi
      have hri : ∀ i (h0 : 0 < i) (hi : i < B.length), Op.bytesLess (B[i - 1]'(by omega)).toList B[i].toList = true := by rw [hB]; exact fun i h0 hi => bounds_rise h0 hi
      rw [← hB] at s5 hbl
      have HAT := Lib.hid hat
      have HRI := Lib.hid hri
      clear hat hri hB
      obtain ⟨a3, cap3, rfl⟩ := s5.form
      have hbl9 : B.length ≤ 16 := by omega
      go_wp2_with fail
      go_loopw [2, 10] (fun r i wq => ∃ (i' : Nat), r = .bool false ∧ i = .int .i64 i' ∧ i' ≤ B.length ∧ Ev.Ext w5 wq) (fun _ i _ => B.length - (intOf i).toNat)
      case atStart => exact ⟨0, rfl, rfl, by omega, Ev.Ext.refl _⟩
      case round =>
        obtain ⟨i, rfl, rfl, hi, heq⟩ := hrel
        by_cases h1 : i < B.length
        · obtain ⟨b, o, rfl, _, _, c0⟩ := (str_cells s5).2 i B[i] (by simp [h1])
          obtain ⟨f1, f2⟩ := HAT.out i h1
          have hrl : ∀ h0 : 0 < i, Op.bytesLess (B[i - 1]'(by omega)).toList B[i].toList = true := fun h0 => HRI.out i h0 h1
          have HRL := Lib.hid hrl
          have F1 := Lib.hid f1
          clear hrl f1
          go_wp2_with fail
          go_loopw [11, 12] (fun r i2 wq => ∃ (k : Nat), r = .bool (fnd (m.take k) B[i]) ∧ i2 = .int .i64 k ∧ k ≤ m.length ∧ Ev.Ext w5 wq) (fun _ i _ => m.length - (intOf i).toNat)
          case atStart => exact ⟨0, rfl, rfl, by omega, heq⟩
          case round =>
            obtain ⟨k, rfl, rfl, hk, hek⟩ := hrel
            by_cases h2 : k < m.length
            · obtain ⟨b', o', rfl, _, _, _, d0, d1⟩ := (rng_cells m5).2 k m[k] (by simp [h2])
              have c0 := cell_later hek c0
              have d0 := cell_later hek d0
              have d1 := cell_later hek d1
              have hsn := fnd_snoc h2 B[i]
              cases e0 : fnd (m.take k) B[i] <;> cases e1 : (m[k].f.toList == B[i].toList) <;> cases e2 : (m[k].t.toList == B[i].toList)
              all_goals
                rw [e0, e1, e2] at hsn
                have HS := Lib.hid hsn
                clear hsn
                go_wp2
                go_quiet (fail)
                go_wp2
                refine ⟨⟨k + 1, ?_, by go_num, by omega, below_drewN hek _⟩, by simp [intOf]; omega⟩
                rw [HS.out]; rfl
            · obtain rfl : k = m.length := by omega
              rw [List.take_length, F1.out]
              have c0 := cell_later hek c0
              by_cases h0 : i = 0
              · have hz : decide (0 < i) = false := by simp; omega
                clear h0
                go_wp2
                go_quiet (fail)
                go_wp2
                exact ⟨⟨i + 1, rfl, by go_num, by omega, below_drewN hek _⟩, by simp [intOf]; omega⟩
              · have hz : 0 < i := by omega
                have hzi : (0 : Int) < i := by omega
                have hz1 : i - 1 < B.length := by omega
                obtain ⟨b', o', eb, _, _, g0⟩ := (str_cells s5).2 (i - 1) B[i - 1] (by simp [hz1])
                simp only [Option.some.injEq, Addr.mk.injEq, and_true] at eb
                obtain ⟨rfl, rfl⟩ := eb
                have g0 := cell_later hek g0
                have hls := HRL.out hz
                clear h0
                go_wp2
                go_quiet (fail)
                go_wp2
                exact ⟨⟨i + 1, rfl, by go_num, by omega, below_drewN hek _⟩, by simp [intOf]; omega⟩
        · obtain rfl : i = B.length := by omega
          have hle : (B.length : Int) ≤ 2 * m.length := by omega
          go_wp2
          go_ret
          exact ⟨rfl, (hext.trans e5).trans heq⟩
end Go.Proofs.Ytjjamghmcihlnaa
