/- Ranges as data; 'few'. -/
import Derived.Test.YtjjamghmcihlnaaRep
import Derived.Test.YtjjamghmcihlnaaKWalks3
set_option linter.unusedSimpArgs false
set_option linter.unusedVariables false
namespace Go.Proofs.Ytjjamghmcihlnaa
open Go.RowKit R
structure Rng where
  f : ByteArray
  t : ByteArray
instance : GoT Rng where
  n := 2
  pos := by decide
  rep _ _ cs r := cs = [.string r.f, .string r.t] ∧ r.f.size ≤ 9223372036854775807 ∧ r.t.size ≤ 9223372036854775807
  len h := by rw [h.1]; rfl
  one h c hc := by rw [h.1] at hc; simp at hc; rcases hc with rfl | rfl <;> rfl
  mono _ h := h
theorem rng_n : GoT.n Rng = 2 := rfl
theorem rng_elem : ElemT Try.prog 40 30 2 32 := ⟨Try.underlying40, by
  have h : (Try.prog.info? 30).map (fun i => (i.zero, i.size, i.bytes)) = some (some (.agg #[.string ⟨#[]⟩, .string ⟨#[]⟩]), 2, 32) := by kernel_rfl
  obtain ⟨i, hi, h1, h2, h3⟩ := info_parts h
  exact ⟨i, _, hi, h1, h2, h3, rfl⟩⟩
/-- The two cells of a range in a slice. -/
theorem rng_cells {K : Blocks} {w : World} {a : Option Addr} {len cap : Nat} {l : List Rng} (h : Sl K w (.slice a len cap) l) :
    len = l.length ∧ ∀ (i : Nat) (x : Rng), l[i]? = some x → ∃ b o, a = some ⟨b, o, none⟩ ∧ K b ∧ x.f.size ≤ 9223372036854775807 ∧ x.t.size ≤ 9223372036854775807 ∧ w.cell? ⟨b, o + i * 2, none⟩ = some (.string x.f) ∧ w.cell? ⟨b, o + i * 2 + 1, none⟩ = some (.string x.t) := by
  obtain ⟨hl, h⟩ := h.get
  refine ⟨hl, fun i x hx => ?_⟩
  obtain ⟨b, o, cs, ha, hb, ⟨rfl, h1, h2⟩, hat⟩ := h i x hx
  exact ⟨b, o, ha, hb, h1, h2, hat 0 _ rfl, hat 1 _ rfl⟩
def cut20 (r : Rng) : Rng := ⟨r.f.extract 0 20, r.t.extract 0 20⟩
def fewR (l : List Rng) : List Rng := (l.take 8).map cut20
theorem two_later' {w w1 : World} {a b : Addr} {x y : Value} (hb : Ev.Ext w w1) (h0 : w.cell? a = some x) (h1 : w.cell? b = some y) : w1.cell? a = some x ∧ w1.cell? b = some y := ⟨cell_later hb h0, cell_later hb h1⟩
set_option maxHeartbeats 1000000 in
theorem few_any (v : Value) (l : List Rng) (K : Blocks) (w : World) (h : Sl K w v l) :
    Calls Try.prog 22 #[v] w fun e w' => ∃ v', e = .returned v' ∧ Ev.Ext w w' ∧ Grow 30 K w.heap.size w' v' (fewR l) := by
  obtain ⟨a, cap, rfl⟩ := h.form
  have hlen := h.len_le
  go_enter Try.func22, Try.ntmps22
  go_wp2_with fail
  go_loopw [3, 4] (fun s i wr => ∃ (k : Nat), i = .int .i64 k ∧ k ≤ l.length ∧ k ≤ 8 ∧ Ev.Ext w wr ∧ Grow 30 K w.heap.size wr s ((l.take k).map cut20)) (fun _ i _ => 8 - (intOf i).toNat)
  case atStart => exact ⟨0, rfl, by omega, by omega, Ev.Ext.refl _, Grow.nil _ _ _ _⟩
  case round =>
    obtain ⟨k, rfl, hk, hk8, hext, hg⟩ := hrel
    by_cases h1 : k < l.length
    · by_cases h2 : k < 8
      · obtain ⟨b, o, rfl, hKb, hs0, hs1, c0, c1⟩ := (rng_cells h).2 k l[k] (by simp [h1])
        have c0 := cell_later hext c0
        have c1 := cell_later hext c1
        go_wp2
        refine Ev.wp_region_tail (Ev.Ext _) (Ev.Ext) 15 (by kernel_rfl) (by kernel_rfl) Ev.Ext.refl (fun _ _ h k => k.trans h) (Ev.Ext.refl _).tick ?_
        simp only [List.take, List.drop]
        repeat
          first
          | (apply Ev.walk_eq
             · intro u wx hcx hfx
               have hk := two_later' hcx c0 c1
               try simp at hfx
               try go_simp
               first
                 | rfl
                 | (intro K hK
                    try go_simp
                    first
                      | (refine hK _ ?_; first | exact Ev.Ext.refl _ | assumption)
                      | (first | (go_at_call 12; refine (short_any _ 20 (by omega) _).mono ?_; rintro e wy ⟨rfl, rfl⟩; exact ⟨_, rfl, hK _ (Ev.Ext.refl _)⟩))))
          | ((refine Ev.walk_rel (NewRow wr.heap.size #[.string (l[k].f.extract 0 20), .string (l[k].t.extract 0 20)] 30 1) NewRow.stable ?_ ?_; (intro u wx hcx hfx; try simp at hfx; go_simp; intro K hK; refine hK _ _ ?_ ⟨_, rfl, hcx.size, heap_alloc_new _ _⟩; exact (Below.refl _ _).alloc (Nat.le_refl _) _)))
          try simp only [List.nil_append]
          try simp only [List.cons_append]
        intro u wx hcx hfx
        simp at hfx
        simp only [Ev.putU, Act.put, List.setIfInBounds_toArray, List.set_cons_zero, List.set_cons_succ]
        obtain ⟨e0, e1, e2, e3, e4, e5, e6, e7, e8, e9, e10, e11, e12, e13, b', e14, hB', hc'⟩ := hfx
        simp only [e0, e14]
        clear e0 e1 e2 e3 e4 e5 e6 e7 e8 e9 e10 e11 e12 e13 e14
        refine R.wpList_append rfl (.tmp 15) (.tmp 29) 40 rfl rng_elem _ _ rfl (hg.ext hcx) ⟨b', 0, none⟩ 1 [cut20 l[k]] rfl [[.string (l[k].f.extract 0 20), .string (l[k].t.extract 0 20)]] (.cons ⟨rfl, ?_, ?_⟩ .nil) (row_cells hc') ?_ ?_ ?_ ?_
        · exact (ByteArray.size_extract ▸ (by omega : min 20 l[k].f.size - 0 ≤ 9223372036854775807))
        · exact (ByteArray.size_extract ▸ (by omega : min 20 l[k].t.size - 0 ≤ 9223372036854775807))
        · simp only [List.length_map, List.length_take, List.length_cons, List.length_nil, maxLen]; omega
        · simp only [List.length_map, List.length_take, List.length_cons, List.length_nil]; omega
        · exact Nat.le_trans hext.size hcx.size
        intro v' w' hg' hgb
        have hb' := grown_below (hext.trans hcx) hgb (Nat.le_trans hext.size hcx.size) (hg.ext hcx).base
        clear hgb hc' hcx
        go_wp2
        go_roundw
        case rel => exact ⟨k + 1, by go_num, by omega, by omega, hb', by
          have e : (l.take (k + 1)).map cut20 = (l.take k).map cut20 ++ [cut20 l[k]] := by rw [List.take_succ_eq_append_getElem h1, List.map_append]; rfl
          rw [e]; exact hg'⟩
        case measure => simp [intOf]; omega
      · have e : fewR l = (l.take k).map cut20 := by unfold fewR; rw [show k = 8 from by omega]
        have HE := Lib.hid e
        clear e
        go_wp2
        go_ret
        exact ⟨_, rfl, hext, by rw [HE.out]; exact hg⟩
    · have e : fewR l = (l.take k).map cut20 := by unfold fewR; rw [List.take_of_length_le (by omega), List.take_of_length_le (by omega)]
      have HE := Lib.hid e
      clear e
      go_wp2
      go_ret
      exact ⟨_, rfl, hext, by rw [HE.out]; exact hg⟩
end Go.Proofs.Ytjjamghmcihlnaa
