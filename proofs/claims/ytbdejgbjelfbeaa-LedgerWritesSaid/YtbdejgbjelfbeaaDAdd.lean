/- The reference's Add: a dep into a row. -/
import Derived.Test.YtbdejgbjelfbeaaDAdd0
set_option linter.unusedSimpArgs false
set_option linter.unusedVariables false
namespace Go.Proofs.Ytbdejgbjelfbeaa
open Go.RowKit R
theorem kn_wide {Kb : Blocks} {B B' b : Nat} (h : (Kb b ∧ b < B') ∨ B' ≤ b) (hB : B ≤ B') : (Kb b ∧ b < B) ∨ B ≤ b := by
  rcases h with ⟨h1, h2⟩ | h
  · by_cases h3 : b < B
    · exact .inl ⟨h1, h3⟩
    · exact .inr (by omega)
  · exact .inr (by omega)
set_option maxHeartbeats 8000000 in
set_option maxRecDepth 100000 in
theorem dadd_any (v : Value) (p : List Dep) (d : Dep) (hd : d.key.size ≤ 9223372036854775807) (hdn : inI d.n) (hds : inI d.s) (hl : p.length ≤ 1000) (Kb : Blocks) (w : World) (h : Sl Kb w v p) :
    Calls Try.prog 29 #[v, d.val] w fun e w' => ∃ v', e = .returned v' ∧ Ev.Ext w w' ∧ Sl (fun b => (Kb b ∧ b < w.heap.size) ∨ w.heap.size ≤ b) w' v' (D.add p d) := by
  have hwide : ∀ w', Ev.Ext w w' → Sl (fun b => (Kb b ∧ b < w.heap.size) ∨ w.heap.size ≤ b) w' v p := fun w' he => h.mono fun b hb hlt => ⟨.inl ⟨hb, hlt⟩, he.block b hlt⟩
  obtain ⟨a, cap, rfl⟩ := h.form
  have hlen := h.len_le
  have HW := Lib.hid hwide
  clear hwide
  unfold Dep.val
  have hchk := fun w => rcheck_any d.key hd w
  have hst := fun w => rstcheck_any d.n d.s w
  have hE := extA w (.cells #[.string d.key, .int .i64 d.n, .int .i64 d.s] 56)
  cases q1 : K.checkB d.key <;> cases q2 : V.stampB d.n d.s
  case true.true =>
    have hdd : D.add p d = D.addF p d false := by simp [D.add, D.okB, q1, q2]
    rw [q1] at hchk
    rw [q2] at hst
    have HC := Lib.hid hchk
    have HS := Lib.hid hst
    have HD := Lib.hid hdd
    clear hchk hst hdd q1 q2
    go_enter Try.func29, Try.ntmps29
    go_wp2_with fail
    refine (HC.out _).mono ?_; rintro e w1 ⟨rfl, rfl⟩
    go_wp2_with fail
    refine (HS.out _).mono ?_; rintro e w2 ⟨rfl, hb2⟩
    have c0 : w2.cell? ⟨w.heap.size, 0, none⟩ = some (.string d.key) := cell_later hb2 (by simp)
    have c1 : w2.cell? ⟨w.heap.size, 1, none⟩ = some (.int .i64 d.n) := cell_later hb2 (by simp)
    have c2 : w2.cell? ⟨w.heap.size, 2, none⟩ = some (.int .i64 d.s) := cell_later hb2 (by simp)
    have hE2 : Ev.Ext w w2 := hE.trans hb2
    clear hE hb2
    go_wp2_with fail
    go_loopw [7, 8, 9] (fun o q i wr => ∃ (k : Nat) (put : Bool) (out : List Dep), q = .bool put ∧ i = .int .i64 k ∧ k ≤ p.length ∧ out.length ≤ 2 * k ∧ Ev.Ext w2 wr ∧ Grow 56 Kb w2.heap.size wr o out ∧ D.At p d k put out) (fun _ _ i _ => p.length - (intOf i).toNat)
    case atStart => exact ⟨0, false, [], rfl, rfl, by omega, by simp, Ev.Ext.refl _, Grow.nil _ _ _ _, rfl⟩
    case round =>
      obtain ⟨k, put, out, rfl, rfl, hk, ho, hext, hg, hat⟩ := hrel
      by_cases h1 : k < p.length
      · obtain ⟨b, o, rfl, hKb, ⟨hxs, hxn, hxq⟩, d0, d1, d2⟩ := (dep_cells h).2 k p[k] (by simp [h1])
        have d0 := cell_later (hE2.trans hext) d0
        have d1 := cell_later (hE2.trans hext) d1
        have d2 := cell_later (hE2.trans hext) d2
        have hcur := extA wr (.cells #[.string p[k].key, .int .i64 p[k].n, .int .i64 p[k].s] 56)
        have e0 := cell_later (hext.trans hcur) c0
        have e1 := cell_later (hext.trans hcur) c1
        have e2 := cell_later (hext.trans hcur) c2
        have HAT := Lib.hid hat
        clear hat
        cases he : D.eqB p[k] d
        · have he' : (p[k].key.toList == d.key.toList) = false := he
          cases put
          · cases hlt : D.ltB p[k] d
            · have hlt' : Op.bytesLess p[k].key.toList d.key.toList = false := hlt
              have ha := HAT.out.put h1 he hlt
              have HA := Lib.hid ha
              clear ha he hlt
              go_wp2_with (first | (at_builtin; refine R.wpList_append rfl _ _ 27 rfl dep_elem _ _ rfl ((hg.ext hcur).ext (extA _ _)) ⟨_, 0, none⟩ 1 [d] rfl [[.string d.key, .int .i64 d.n, .int .i64 d.s]] (dep_row d hd hdn hds) (row_cells (by first | exact heap_alloc_new _ _ | exact heap_new2 _ _ _ | exact heap_set3 _ _ _ _ _ _ _ _)) (by simp [maxLen]; omega) (by simp; omega) (Nat.le_trans (hext.trans hcur).size (extA _ _).size) ?_; intro v1 w9 hg9 hgb9; have hext2 : Ev.Ext w2 w9 := grown_below ((hext.trans hcur).trans (extA _ _)) hgb9 (Nat.le_trans (hext.trans hcur).size (extA _ _).size) hg.base; have hb9 := box_kept hg hgb9; obtain ⟨f0, f1, f2⟩ := hb9; have hgo := hg9; clear hgb9 hg9 d0 d1 d2 e0 e1 e2 c0 c1 c2) | (at_builtin; refine R.wpList_append rfl _ _ 27 rfl dep_elem _ _ rfl (hgo.ext (extA _ _)) ⟨_, 0, none⟩ 1 [p[k]] rfl [[.string p[k].key, .int .i64 p[k].n, .int .i64 p[k].s]] (dep_row p[k] hxs hxn hxq) (row_cells (by first | exact heap_alloc_new _ _ | exact heap_new2 _ _ _ | exact heap_set3 _ _ _ _ _ _ _ _)) (by simp [maxLen]; omega) (by simp; omega) (Nat.le_trans hext2.size (extA _ _).size) ?_; intro v2 w10 hg9 hgb9))
              exact ⟨⟨k + 1, true, out ++ [d] ++ [p[k]], rfl, by go_num, by omega, by simp; omega, grown_below (hext2.trans (extA _ _)) hgb9 (Nat.le_trans hext2.size (extA _ _).size) hgo.base, hg9, HA.out⟩, by simp [intOf]; omega⟩
            · have hlt' : Op.bytesLess p[k].key.toList d.key.toList = true := hlt
              have ha := HAT.out.lt h1 he hlt
              have HA := Lib.hid ha
              clear ha he hlt
              go_wp2_with (at_builtin; refine R.wpList_append rfl _ _ 27 rfl dep_elem _ _ rfl ((hg.ext hcur).ext (extA _ _)) ⟨_, 0, none⟩ 1 [p[k]] rfl [[.string p[k].key, .int .i64 p[k].n, .int .i64 p[k].s]] (dep_row p[k] hxs hxn hxq) (row_cells (by first | exact heap_alloc_new _ _ | exact heap_new2 _ _ _ | exact heap_set3 _ _ _ _ _ _ _ _)) (by simp [maxLen]; omega) (by simp; omega) (Nat.le_trans (hext.trans hcur).size (extA _ _).size) ?_; intro v1 w9 hg9 hgb9)
              exact ⟨⟨k + 1, false, out ++ [p[k]], rfl, by go_num, by omega, by simp; omega, grown_below ((hext.trans hcur).trans (extA _ _)) hgb9 (Nat.le_trans (hext.trans hcur).size (extA _ _).size) hg.base, hg9, HA.out⟩, by simp [intOf]; omega⟩
          · have ha := HAT.out.skip h1 he
            have HA := Lib.hid ha
            clear ha he
            go_wp2_with (at_builtin; refine R.wpList_append rfl _ _ 27 rfl dep_elem _ _ rfl ((hg.ext hcur).ext (extA _ _)) ⟨_, 0, none⟩ 1 [p[k]] rfl [[.string p[k].key, .int .i64 p[k].n, .int .i64 p[k].s]] (dep_row p[k] hxs hxn hxq) (row_cells (by first | exact heap_alloc_new _ _ | exact heap_new2 _ _ _ | exact heap_set3 _ _ _ _ _ _ _ _)) (by simp [maxLen]; omega) (by simp; omega) (Nat.le_trans (hext.trans hcur).size (extA _ _).size) ?_; intro v1 w9 hg9 hgb9)
            exact ⟨⟨k + 1, true, out ++ [p[k]], rfl, by go_num, by omega, by simp; omega, grown_below ((hext.trans hcur).trans (extA _ _)) hgb9 (Nat.le_trans (hext.trans hcur).size (extA _ _).size) hg.base, hg9, HA.out⟩, by simp [intOf]; omega⟩
        · have he' : (p[k].key.toList == d.key.toList) = true := he
          have hls := fun w => rless_any p[k].n p[k].s d.n d.s w
          have ha := HAT.out.eq h1 he
          cases hl2 : D.lessB p[k].n p[k].s d.n d.s
          all_goals
            rw [hl2] at hls ha
            have HLS := Lib.hid hls
            have HA := Lib.hid ha
            clear hls ha he hl2
          · go_wp2_with fail
            refine (HLS.out _).mono ?_; rintro e w4 ⟨rfl, hb4⟩
            have hb := three_afterD hb4
            obtain ⟨f0, f1, f2⟩ := hb
            have hcur := hcur.trans hb4
            clear d0 d1 d2 e0 e1 e2 c0 c1 c2
            cases put
            all_goals
              go_wp2_with (at_builtin; refine R.wpList_append rfl _ _ 27 rfl dep_elem _ _ rfl ((hg.ext hcur).ext (extA _ _)) ⟨_, 0, none⟩ 1 [p[k]] rfl [[.string p[k].key, .int .i64 p[k].n, .int .i64 p[k].s]] (dep_row p[k] hxs hxn hxq) (row_cells (by first | exact heap_alloc_new _ _ | exact heap_new2 _ _ _ | exact heap_set3 _ _ _ _ _ _ _ _)) (by simp [maxLen]; omega) (by simp; omega) (Nat.le_trans (hext.trans hcur).size (extA _ _).size) ?_; intro v1 w9 hg9 hgb9)
              exact ⟨⟨k + 1, true, out ++ [p[k]], rfl, by go_num, by omega, by simp; omega, grown_below ((hext.trans hcur).trans (extA _ _)) hgb9 (Nat.le_trans (hext.trans hcur).size (extA _ _).size) hg.base, hg9, HA.out⟩, by simp [intOf]; omega⟩
          · go_wp2_with fail
            refine (HLS.out _).mono ?_; rintro e w4 ⟨rfl, hb4⟩
            have g0 := cell_later hb4 e0
            have g1 := cell_later hb4 e1
            have g2 := cell_later hb4 e2
            have hb := three_afterD hb4
            obtain ⟨f0, f1, f2⟩ := hb
            have hfz : w4.heap[wr.heap.size]? = some (.cells #[.string p[k].key, .int .i64 p[k].n, .int .i64 p[k].s] 56) := (hb4.block _ (by simp)).trans (heap_alloc_new _ _)
            have z0 : w4.frozen? ⟨wr.heap.size, 0, none⟩ = false := by simp [World.frozen?, hfz]
            have z1 : w4.frozen? ⟨wr.heap.size, 1, none⟩ = false := by simp [World.frozen?, hfz]
            have z2 : w4.frozen? ⟨wr.heap.size, 2, none⟩ = false := by simp [World.frozen?, hfz]
            have hcur : Ev.Ext wr (((w4.setCell ⟨wr.heap.size, 0, none⟩ (.string d.key)).setCell ⟨wr.heap.size, 1, none⟩ (.int .i64 d.n)).setCell ⟨wr.heap.size, 2, none⟩ (.int .i64 d.s)) := (((hcur.trans hb4).setCell (Nat.le_refl _) _).setCell (Nat.le_refl _) _).setCell (Nat.le_refl _) _
            clear d0 d1 d2 e0 e1 e2 c0 c1 c2 hfz
            cases put
            all_goals
              go_wp2_with (at_builtin; refine R.wpList_append rfl _ _ 27 rfl dep_elem _ _ rfl ((hg.ext hcur).ext (extA _ _)) ⟨_, 0, none⟩ 1 [d] rfl [[.string d.key, .int .i64 d.n, .int .i64 d.s]] (dep_row d hd hdn hds) (row_cells (by first | exact heap_alloc_new _ _ | exact heap_new2 _ _ _ | exact heap_set3 _ _ _ _ _ _ _ _)) (by simp [maxLen]; omega) (by simp; omega) (Nat.le_trans (hext.trans hcur).size (extA _ _).size) ?_; intro v1 w9 hg9 hgb9)
              exact ⟨⟨k + 1, true, out ++ [d], rfl, by go_num, by omega, by simp; omega, grown_below ((hext.trans hcur).trans (extA _ _)) hgb9 (Nat.le_trans (hext.trans hcur).size (extA _ _).size) hg.base, hg9, HA.out⟩, by simp [intOf]; omega⟩
      · obtain rfl : k = p.length := by omega
        have hq : out ++ D.addF [] d put = D.addF p d false := by have := hat; unfold D.At at this; rwa [List.drop_length] at this
        have HQ := Lib.hid hq
        have hcur := Ev.Ext.refl wr
        have e0 := cell_later hext c0
        have e1 := cell_later hext c1
        have e2 := cell_later hext c2
        clear hq hat c0 c1 c2
        cases put
        · go_wp2_with (at_builtin; refine R.wpList_append rfl _ _ 27 rfl dep_elem _ _ rfl ((hg.ext hcur).ext (extA _ _)) ⟨_, 0, none⟩ 1 [d] rfl [[.string d.key, .int .i64 d.n, .int .i64 d.s]] (dep_row d hd hdn hds) (row_cells (by first | exact heap_alloc_new _ _ | exact heap_new2 _ _ _ | exact heap_set3 _ _ _ _ _ _ _ _)) (by simp [maxLen]; omega) (by simp; omega) (Nat.le_trans (hext.trans hcur).size (extA _ _).size) ?_; intro v1 w9 hg9 hgb9)
          go_ret
          have e : D.add p d = out ++ [d] := by rw [HD.out, ← HQ.out]; simp [D.addF]
          rw [e]
          have hend : Ev.Ext w2 w9 := grown_below ((hext.trans hcur).trans (extA _ _)) hgb9 (Nat.le_trans (hext.trans hcur).size (extA _ _).size) hg.base
          exact ⟨_, rfl, hE2.trans hend, (hg9.sl (by simp; omega)).mono fun b hb _ => ⟨kn_wide hb hE2.size, rfl⟩⟩
        · go_wp2
          go_ret
          have e : D.add p d = out := by rw [HD.out, ← HQ.out]; simp [D.addF]
          rw [e]
          exact ⟨_, rfl, hE2.trans hext, (hg.sl (by omega)).mono fun b hb _ => ⟨kn_wide hb hE2.size, rfl⟩⟩
  all_goals
    have hdd : D.add p d = p := by simp [D.add, D.okB, q1, q2]
    rw [q1] at hchk
    rw [q2] at hst
    have HC := Lib.hid hchk
    have HS := Lib.hid hst
    have HD := Lib.hid hdd
    clear hchk hst hdd q1 q2
    go_enter Try.func29, Try.ntmps29
    go_wp2_with fail
    refine (HC.out _).mono ?_; rintro e w1 ⟨rfl, rfl⟩
    go_wp2_with fail
    refine (HS.out _).mono ?_; rintro e w2 ⟨rfl, hb2⟩
    go_wp2
    go_ret
    rw [HD.out]
    exact ⟨_, rfl, hE.trans hb2, HW.out _ (hE.trans hb2)⟩
end Go.Proofs.Ytbdejgbjelfbeaa
