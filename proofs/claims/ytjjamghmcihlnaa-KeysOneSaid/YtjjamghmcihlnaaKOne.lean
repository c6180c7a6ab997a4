/- KeysOne: the walk. -/
import Derived.Test.YtjjamghmcihlnaaKPlain6
import Derived.Test.YtjjamghmcihlnaaKRanges
import Derived.Test.YtjjamghmcihlnaaKWord
set_option linter.unusedSimpArgs false
set_option linter.unusedVariables false
namespace Go.Proofs.Ytjjamghmcihlnaa
open Go.RowKit R
theorem int_cells {Kb : Blocks} {w : World} {a : Option Addr} {len cap : Nat} {l : List Int} (h : Sl Kb w (.slice a len cap) l) :
    len = l.length ∧ ∀ (i : Nat) (x : Int), l[i]? = some x → ∃ b o, a = some ⟨b, o, none⟩ ∧ Kb b ∧ w.cell? ⟨b, o + i, none⟩ = some (.int .i64 x) := by
  obtain ⟨hl, h⟩ := h.get
  refine ⟨hl, fun i x hx => ?_⟩
  obtain ⟨b, o, cs, ha, hb, ⟨rfl, h1⟩, hat⟩ := h i x hx
  have := hat 0 _ rfl
  rw [show GoT.n Int = 1 from rfl, Nat.mul_one] at this
  exact ⟨b, o, ha, hb, this⟩
set_option maxHeartbeats 8000000 in
set_option maxRecDepth 100000 in
theorem onelaw_walk (v : Value) (l : List Int) (key : ByteArray) (Kb : Blocks) (w : World) (h : Sl Kb w v l) :
    Calls Try.prog 10 #[v, .string key] w fun e w' => e = .returned (.bool true) ∧ Ev.Ext w w' := by
  obtain ⟨al, capl, rfl⟩ := h.form
  have hlen := h.len_le
  go_enter Try.func10, Try.ntmps10
  go_wp2_with fail
  refine (awake_any _).mono ?_; rintro e w1 ⟨rfl, hb1⟩
  have hl := h.ext hb1
  have hext : Ev.Ext w w1 := hb1
  clear h hb1
  go_wp2_with fail
  go_loopw [6, 7, 8] (fun r a i wr => ∃ (k : Nat) (m : List Rng) (x : ByteArray), a = .string x ∧ i = .int .i64 k ∧ k ≤ l.length ∧ k ≤ 6 ∧ m.length ≤ k ∧ x.size ≤ 9223372036854775807 ∧ Ev.Ext w1 wr ∧ Grow 30 (fun b => b < w1.heap.size) w1.heap.size wr r m ∧ Chn m x) (fun _ _ i _ => 6 - (intOf i).toNat)
  case atStart => exact ⟨0, [], ⟨#[]⟩, rfl, rfl, by omega, by omega, by simp, by decide, Ev.Ext.refl _, Grow.nil _ _ _ _, .nil⟩
  case round =>
    obtain ⟨k, m, x, rfl, rfl, hk, hk6, hmk, hxs, her, hg, hch⟩ := hrel
    by_cases hin : k < l.length ∧ k < 6
    · obtain ⟨h1, h2⟩ := hin
      obtain ⟨b, o, rfl, _, c0⟩ := (int_cells hl).2 k l[k] (by simp [h1])
      have c0 := cell_later her c0
      have hw := K.may_word l[k]
      have hws := K.size_word l[k]
      go_wp2_with fail
      refine (word_any _ _).mono ?_; rintro e w3 ⟨rfl, hb3⟩
      have hg3 := hg.ext hb3
      have her3 := her.trans hb3
      clear hb3 c0
      generalize K.word l[k] = u at *
      have hgo : (Op.bytesLess u.toList x.toList = true) ∨ (Op.bytesLess u.toList x.toList = false ∧ (u.toList == x.toList) = true) ∨ (Op.bytesLess u.toList x.toList = false ∧ (u.toList == x.toList) = false ∧ Hid (Op.bytesLess x.toList u.toList = true)) := by
        cases q1 : Op.bytesLess u.toList x.toList <;> cases q2 : (u.toList == x.toList) <;> simp
        refine Lib.hid ?_
        cases q3 : Op.bytesLess x.toList u.toList
        · rw [K.bl_tri _ _ q1 q3] at q2; simp at q2
        · rfl
      rcases hgo with q1 | ⟨q1, q2⟩ | ⟨q1, q2, HL⟩
      · go_wp2
        go_roundw
        case rel => exact ⟨k + 1, m, x, rfl, by go_num, by omega, by omega, by omega, hxs, her3, hg3, hch⟩
        case measure => simp [intOf]; omega
      · go_wp2
        go_roundw
        case rel => exact ⟨k + 1, m, x, rfl, by go_num, by omega, by omega, by omega, hxs, her3, hg3, hch⟩
        case measure => simp [intOf]; omega
      · go_wp2_with (at_builtin; refine R.wpList_append rfl _ _ 40 rfl rng_elem _ _ rfl (hg3.ext (ext_alloc _ _)) ⟨_, 0, none⟩ 1 [⟨x, u⟩] rfl [[.string x, .string u]] (.cons ⟨rfl, hxs, hws⟩ .nil) (row_cells (heap_alloc_new _ _)) (by simp [maxLen]; omega) (by simp; omega) (Nat.le_trans her3.size (ext_alloc _ _).size) ?_; intro v1 w1' hg1 hgb1)
        have hext2 : Ev.Ext w1 w1' := grown_below (her3.trans (ext_alloc _ _)) hgb1 (Nat.le_trans her3.size (ext_alloc _ _).size) hg3.base
        go_roundw
        case rel => exact ⟨k + 1, m ++ [⟨x, u⟩], u, rfl, by go_num, by omega, by omega, by simp; omega, hws, hext2, hg1, hch.snoc hw HL.out⟩
        case measure => simp [intOf]; omega
    · have hm6 : m.length ≤ 6 := by omega
      have hdone : (k < l.length) = False ∨ ((k < l.length) = True ∧ k = 6) := by
        by_cases q : k < l.length
        · exact .inr ⟨by simp [q], by omega⟩
        · exact .inl (by simp [q])
      clear hin
      rcases hdone with h1 | ⟨h1, rfl⟩
      all_goals
        have h1' := h1
        simp only [eq_iff_iff, iff_false, iff_true] at h1'
        clear h1
        go_wp2_with (at_builtin; refine R.wpList_append rfl _ _ 40 rfl rng_elem _ _ rfl (hg.ext (ext_alloc _ _)) ⟨_, 0, none⟩ 1 [endR x] rfl [[.string x, .string ⟨#[]⟩]] (.cons ⟨rfl, hxs, K.size_nil⟩ .nil) (row_cells (heap_alloc_new _ _)) (by simp [maxLen]; omega) (by simp; omega) (Nat.le_trans her.size (ext_alloc _ _).size) ?_; intro v1 w2 hg1 hgb1)
        have hext2 : Ev.Ext w1 w2 := grown_below (her.trans (ext_alloc _ _)) hgb1 (Nat.le_trans her.size (ext_alloc _ _).size) hg.base
        have hs := hg1.sl (by simp; omega)
        have CNT := Lib.hid (fun (k : Nat) (hk : k < (m ++ [endR x]).length) => count_take hk key)
        have APART := Lib.hid (List.pairwise_iff_getElem.1 hch.apart)
        have hone := hch.last key
        obtain ⟨fi, hfi, hfind, hfh⟩ := hch.find key
        have hwh := hch.whole
        have hbd := hch.bounds
        have hRl : (m ++ [endR x]).length = m.length + 1 := by simp
        clear hgb1 hg1 hg
        generalize m ++ [endR x] = R at *
        have HONE := Lib.hid hone
        have HFH := Lib.hid hfh
        have HRL := Lib.hid hRl
        have hR7 : R.length ≤ 7 := by omega
        clear hone hfh hch hRl
        obtain ⟨ar, capr, rfl⟩ := hs.form
        have hext3 := hext.trans hext2
        clear hext her hext2 hl
        go_wp2_with fail
        go_loopw [4, 10, 11] (fun r n i wr => ∃ (k : Nat), r = .bool false ∧ n = .int .i64 ((R.take k).countP (hasR key) : Nat) ∧ i = .int .i64 k ∧ k ≤ R.length ∧ Ev.Ext w2 wr) (fun _ _ i _ => R.length - (intOf i).toNat)
        case atStart => exact ⟨0, rfl, by simp, rfl, by omega, Ev.Ext.refl _⟩
        case round =>
          obtain ⟨i, rfl, rfl, rfl, hi, heq⟩ := hrel
          by_cases hlt : i < R.length
          · obtain ⟨b, o, rfl, _, hz0, hz1, _, _⟩ := (rng_cells hs).2 i R[i] (by simp [hlt])
            have LD := Lib.hid (fun w' (he : Ev.Ext _ w') => rng_load hs (heq.trans he) rfl hlt)
            obtain ⟨c0, c1⟩ := LD.out _ (Ev.Ext.refl _)
            have hct := CNT.out i hlt
            have hcle : (R.take i).countP (hasR key) ≤ 7 := Nat.le_trans List.countP_le_length (by simp; omega)
            have hhas := has_any R[i].f R[i].t key
            cases hq : hasR key R[i]
            all_goals
              rw [hq] at hct
              have hq' : K.hasB R[i].f R[i].t key = _ := hq
              rw [hq'] at hhas
              have HH := Lib.hid hhas
              have HC := Lib.hid hct
              clear hhas hct hq hq'
              go_wp2_with (go_at_call 17; refine (HH.out _).mono ?_; rintro e w4 ⟨rfl, hb4⟩)
              have he4 := heq.trans hb4
              clear hb4 c0 c1
              go_loopw [4, 12] (fun r i2 wq => ∃ (j : Nat), r = .bool false ∧ i2 = .int .i64 j ∧ j ≤ i ∧ Ev.Ext w2 wq) (fun _ i2 _ => i - (intOf i2).toNat)
              case atStart => exact ⟨0, rfl, rfl, by omega, he4⟩
              case round =>
                obtain ⟨j, rfl, rfl, hj, hej⟩ := hrel
                by_cases hji : j < i
                · have hjR : j < R.length := by omega
                  obtain ⟨b', o', eb, _, hy0, hy1, _, _⟩ := (rng_cells hs).2 j R[j] (by simp [hjR])
                  simp only [Option.some.injEq, Addr.mk.injEq, and_true] at eb
                  obtain ⟨rfl, rfl⟩ := eb
                  have hm : K.meetB R[i].f R[i].t R[j].f R[j].t = false := APART.out j i (by omega) hlt hji
                  have LD2 := Lib.hid (fun w' (he : Ev.Ext _ w') => And.intro (rng_load hs (hej.trans he) rfl hlt) (rng_load hs (hej.trans he) rfl hjR))
                  have hme := fun w => meet_any R[i].f R[i].t R[j].f R[j].t hz0 hz1 hy0 hy1 w
                  rw [hm] at hme
                  have HM := Lib.hid hme
                  have hci : (0 : Int) ≤ i ∧ (i : Int) < R.length := by omega
                  have hcj : (0 : Int) ≤ j ∧ (j : Int) < R.length := by omega
                  clear hm hme
                  go_wp2
                  refine Ev.wp_region (Ev.Ext _) (Ev.Ext) (by kernel_rfl) (by kernel_rfl) Ev.Ext.refl (fun _ _ h k => k.trans h) (Ev.Ext.refl _).tick ?_
                  repeat
                    first
                    | (apply Ev.walk_eq
                       · intro u wx hcx hfx
                         have hk4 := LD2.out wx hcx
                         try simp at hfx
                         try go_simp
                         first
                           | rfl
                           | (intro K hK
                              try go_simp
                              first
                                | (refine hK _ ?_; first | exact Ev.Ext.refl _ | assumption)
                                | (first | (go_at_call 21; refine (HM.out _).mono ?_; rintro e wy ⟨rfl, hby⟩; exact ⟨_, rfl, hK _ hby⟩))))
                    | (fail)
                    try simp only [List.nil_append]
                    try simp only [List.cons_append]
                  intro u wx hcx hfx
                  simp at hfx
                  simp only [Ev.putU, Act.put, List.setIfInBounds_toArray, List.set_cons_zero, List.set_cons_succ]
                  simp only [hfx]
                  clear hfx
                  go_wp2
                  go_roundw
                  case rel => exact ⟨j + 1, rfl, by go_num, by omega, hej.trans hcx⟩
                  case measure => simp [intOf]; omega
                · obtain rfl : j = i := by omega
                  go_wp2
                  go_roundw
                  case rel => exact ⟨j + 1, rfl, (by rw [HC.out]; first | rfl | simp), by go_num, by omega, hej⟩
                  case measure => simp [intOf]; omega
          · obtain rfl : i = R.length := by omega
            rw [List.take_length, HONE.out]
            have s1 := hs.ext heq
            have hfh := HFH.out
            clear hs
            obtain ⟨b, o, rfl, _, _, _, _, _⟩ := (rng_cells s1).2 fi R[fi] (by simp [hfi])
            have hcf : (0 : Int) ≤ fi ∧ (fi : Int) < R.length := by omega
            have hf0 : (0 : Int) ≤ fi := by omega
            have hhas := has_any R[fi].f R[fi].t key
            have hq' : K.hasB R[fi].f R[fi].t key = true := hfh
            rw [hq'] at hhas
            have HH := Lib.hid hhas
            clear hfh hhas hq'
            go_wp2_with fail
            refine (find_any _ R key _ _ s1).mono ?_; rintro e w4 ⟨rfl, hb4⟩
            have s4 := s1.ext hb4
            clear s1
            rw [hfind]
            go_wp2_with fail
            refine (whole_any _ R _ _ s4).mono ?_; rintro e w5 ⟨rfl, hb5⟩
            rw [hwh]
            have s5 := s4.ext hb5
            clear s4
            obtain ⟨c0, c1⟩ := rng_load s5 (Ev.Ext.refl _) rfl hfi
            go_wp2_with fail
            refine (HH.out _).mono ?_; rintro e w6 ⟨rfl, hb6⟩
            have s6 := s5.ext hb6
            clear s5 c0 c1
            have hl100 : R.length ≤ 100 := by omega
            go_wp2_with fail
            refine (bounds_any _ R hl100 _ _ s6).mono ?_; rintro e w7 ⟨v7, rfl, hb7, hs7⟩
            obtain ⟨a7, cap7, rfl⟩ := hs7.form
            have hbl : ((boundsF R).length : Int) = R.length - 1 := by rw [hbd, HRL.out]; omega
            clear hbd hs7
            go_wp2
            go_ret
            exact ⟨by simp_all, (((((hext3.trans heq).trans hb4).trans hb5).trans hb6).trans hb7)⟩
end Go.Proofs.Ytjjamghmcihlnaa
