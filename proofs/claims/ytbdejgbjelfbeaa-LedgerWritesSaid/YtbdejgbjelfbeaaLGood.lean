/- good, awake: the law's own. -/
import Derived.Test.YtbdejgbjelfbeaaLFew
set_option linter.unusedSimpArgs false
set_option linter.unusedVariables false
namespace Go.Proofs.Ytbdejgbjelfbeaa
open Go.RowKit R
theorem R.Grow.caps {α : Type} [GoT α] {e : TypeId} {K : Blocks} {B : Nat} {w : World} {v : Value} {xs : List α} (h : Grow e K B w v xs) : ∃ a cap, v = .slice a xs.length cap ∧ xs.length ≤ cap := by
  obtain ⟨rows, hown, _⟩ := h.ex
  rcases hown.2 with ⟨rfl, h0⟩ | ⟨g, cap, cur, rfl, _, _, hnc, _⟩
  · exact ⟨none, 0, by rw [h0], by omega⟩
  · exact ⟨_, cap, rfl, hnc⟩
abbrev AllK : Blocks := fun _ => True
set_option maxHeartbeats 4000000 in
set_option maxRecDepth 100000 in
theorem lgood_any (v : Value) (l : List Event) (Kb : Blocks) (w : World) (h : Sl Kb w v l) :
    Calls Try.prog 9 #[v] w fun r w' => ∃ v', r = .returned v' ∧ Ev.Ext w w' ∧ Sl AllK w' v' (L.good l) ∧ ∃ a cap, v' = .slice a (L.good l).length cap ∧ (L.good l).length ≤ cap := by
  go_enter Try.func9, Try.ntmps9
  go_wp2_with fail
  refine (few_any v l Kb w h).mono ?_; rintro e w1 ⟨v1, rfl, hx1, hm1⟩
  have hml := L.few_len l
  have hmf := L.few_fit l
  have hgd : L.good l = (L.few l).filter L.check := rfl
  have HGD := Lib.hid hgd
  clear hgd
  generalize L.few l = m at *
  have hmK := hm1.bound
  obtain ⟨a, cap, rfl⟩ := hm1.form
  go_wp2_with fail
  go_loopw [3, 5] (fun o i wr => ∃ (k : Nat), i = .int .i64 k ∧ k ≤ m.length ∧ Ev.Ext w1 wr ∧ Grow 29 AllK w1.heap.size wr o ((m.take k).filter L.check)) (fun _ i _ => m.length - (intOf i).toNat)
  case atStart => exact ⟨0, rfl, by omega, Ev.Ext.refl _, Grow.nil _ _ _ _⟩
  case round =>
    obtain ⟨k, rfl, hk, hext, hg⟩ := hrel
    by_cases h1 : k < m.length
    · obtain ⟨b, o, vs, rfl, hKb, hsz, hsl, c0, c1, c2, c3, c4, c5⟩ := (event_cells hmK).2 k m[k] (by simp [h1])
      obtain ⟨a2, cap2, rfl⟩ := hsl.form
      have LC := Lib.hid (fun w' (he : Ev.Ext w1 w') => And.intro (cell_later he c0) (And.intro (cell_later he c1) (And.intro (cell_later he c2) (And.intro (cell_later he c3) (And.intro (cell_later he c4) (cell_later he c5))))))
      clear c0 c1 c2 c3 c4 c5
      have H0 := LC.out wr hext
      obtain ⟨c0, c1, c2, c3, c4, c5⟩ := H0
      have hfl : ((m.take k).filter L.check).length ≤ k := Nat.le_trans (List.length_filter_le _ _) (by simp; omega)
      have hsn : (m.take (k + 1)).filter L.check = (m.take k).filter L.check ++ (if L.check m[k] then [m[k]] else []) := by
        rw [List.take_succ_eq_append_getElem h1, List.filter_append]; simp [List.filter]; split <;> simp_all
      have hchk := rlcheck_any m[k] _ _ _ hsz.1 (hsl.ext hext)
      have HC := Lib.hid hchk
      clear hchk
      go_wp2_with fail
      refine HC.out.mono ?_; rintro e w3 ⟨rfl, hb3⟩
      have hx3 := hext.trans hb3
      have H0 := LC.out w3 hx3
      obtain ⟨d0, d1, d2, d3, d4, d5⟩ := H0
      clear c0 c1 c2 c3 c4 c5 HC
      cases hc : L.check m[k]
      · rw [hc] at hsn
        simp only [Bool.false_eq_true, if_false, List.append_nil] at hsn
        have HSN := Lib.hid hsn
        clear hsn hc
        go_wp2_with fail
        go_roundw
        case rel => exact ⟨k + 1, by go_num, by omega, hx3, HSN.out ▸ hg.ext hb3⟩
        case measure => simp [intOf]; omega
      · rw [hc] at hsn
        simp only [if_true] at hsn
        have HSN := Lib.hid hsn
        clear hsn hc
        have hgw := hg.ext hb3
        have hslw := (hsl.ext hx3)
        go_wp2_with (at_builtin; refine R.wpList_append rfl _ _ 22 rfl event_elem _ _ rfl (hgw.ext (extA _ _)) ⟨_, 0, none⟩ 1 [m[k]] rfl [[.int .i64 m[k].kind, .int .i64 m[k].client, .string m[k].key, .int .i64 m[k].n, .int .i64 m[k].s, .slice a2 m[k].seen.length cap2]] (event_row m[k] _ hsz ((hslw.ext (extA _ _)).mono fun b hb _ => ⟨.inl hb, rfl⟩)) (row_cells (heap_alloc_new _ _)) (by simp [maxLen]; omega) (by simp; omega) (hx3.trans (extA _ _)).size ?_; intro v2 w9 hg9 hgb9)
        go_roundw
        case rel => exact ⟨k + 1, by go_num, by omega, grown_below (hx3.trans (extA _ _)) hgb9 (hx3.trans (extA _ _)).size hg.base, HSN.out ▸ hg9⟩
        case measure => simp [intOf]; omega
    · obtain rfl : k = m.length := by omega
      have hfl : (m.filter L.check).length ≤ m.length := List.length_filter_le _ _
      rw [List.take_length] at hg
      go_wp2
      go_ret
      rw [HGD.out]
      exact ⟨_, rfl, Ev.Ext.trans hx1 hext, (hg.sl (by omega)).mono fun b _ _ => ⟨trivial, rfl⟩, hg.caps⟩
end Go.Proofs.Ytbdejgbjelfbeaa
