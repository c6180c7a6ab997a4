/- Rows of deps: Clone, IndexFunc, DeleteFunc. -/
import Derived.Test.YtbdejgbjelfbeaaLDep
set_option linter.unusedSimpArgs false
set_option linter.unusedVariables false
namespace Go.Proofs.Ytbdejgbjelfbeaa
open Go.RowKit R
theorem eql_nil_D (w : World) (a : Option Addr) (n c : Nat) : (binOp .eql 27 (.slice a n c) (.slice none 0 0)).run Try.prog w = .ok (.bool a.isNone) w :=
  Lib.run_eql_slice_nil w 27 56 a n c 0 0 Try.underlying27
set_option maxHeartbeats 1000000 in
set_option maxRecDepth 100000 in
theorem cloneD_any (v : Value) (l : List Dep) (Kb : Blocks) (w : World) (h : Sl Kb w v l) (hl : l.length ≤ 1000) :
    Calls Try.prog 54 #[v] w fun e w' => ∃ v', e = .returned v' ∧ Grow 56 Kb w.heap.size w' v' l ∧ Ev.Ext w w' := by
  obtain ⟨a, cap, rfl⟩ := h.form
  have hlen := h.len_le
  have hq := fun w' => eql_nil_D w' a l.length cap
  cases a with
  | none =>
    obtain rfl : l = [] := h.nil_none
    have hq := fun w' => eql_nil_D w' none 0 cap
    go_enter Try.func54, Try.ntmps54
    go_wp2
    go_ret
    exact ⟨_, rfl, Grow.nil _ _ _ _, Ev.Ext.refl _⟩
  | some a =>
    have hE := extA w (.cells #[] 56)
    have hG : Grow 56 Kb w.heap.size (w.alloc (.cells #[] 56)) (.slice (some ⟨w.heap.size, 0, none⟩) 0 0) ([] : List Dep) := Grow.empty _ _ (heap_alloc_new _ _) (Nat.le_refl _)
    go_enter Try.func54, Try.ntmps54
    go_wp2_with (at_builtin; refine R.wpList_append_sl rfl _ _ 27 rfl dep_elem _ _ rfl hG a cap l rfl (h.own hE) (by simp [maxLen]; omega) (by simp; omega) hE.size ?_; intro v1 w1 hg1 hgb1)
    go_ret
    exact ⟨_, rfl, hg1, grown_below hE hgb1 hE.size hG.base⟩
set_option maxHeartbeats 1000000 in
theorem indexD_any (v : Value) (l : List Dep) (Kb : Blocks) (w : World) (h : Sl Kb w v l) (F : Nat) (caps : Array Value) (hF : ∀ (args : Array Value) (wy : World), (callFunc F args).run Try.prog wy = .ok (.enter F args) wy) (p : Dep → Bool)
    (hp : ∀ (x : Dep) (wy : World), x ∈ l → Ev.Ext w wy → Calls Try.prog F (#[x.val] ++ caps) wy fun e w' => e = .returned (.bool (p x)) ∧ Ev.Ext wy w') :
    Calls Try.prog 79 #[v, .func (.func F) #[] caps] w fun e w' => e = .returned (.int .i64 (idxB p l)) ∧ Ev.Ext w w' := by
  obtain ⟨a, cap, rfl⟩ := h.form
  have hlen := h.len_le
  have HP := Lib.hid hp
  clear hp
  go_enter Try.func79, Try.ntmps79
  go_wp2_with fail
  go_loopw [4, 8] (fun r i wr => ∃ (k : Nat), r = .int .i64 0 ∧ i = .int .i64 k ∧ k ≤ l.length ∧ Ev.Ext w wr ∧ NoTo p l k) (fun _ i _ => l.length - (intOf i).toNat)
  case atStart => exact ⟨0, rfl, rfl, by omega, Ev.Ext.refl _, NoTo.zero p l⟩
  case round =>
    obtain ⟨k, rfl, rfl, hk, hext, hno⟩ := hrel
    by_cases h1 : k < l.length
    · have hx : l[k]? = some l[k] := by simp [h1]
      obtain ⟨b, o, rfl, hKb, hs0, c0, c1, c2⟩ := (dep_cells h).2 k l[k] hx
      have c0 := cell_later hext c0
      have c1 := cell_later hext c1
      have c2 := cell_later hext c2
      have hc := HP.out l[k] wr (List.getElem_mem h1) hext
      unfold Dep.val at hc
      have HX := Lib.hid hx
      clear hx
      cases hpx : p l[k]
      all_goals
        rw [hpx] at hc
        have HX2 := Lib.hid hpx
        clear hpx
        go_wp2_with fail
        refine hc.mono ?_; rintro e w3 ⟨rfl, hb3⟩
        clear hc
        go_wp2
      · go_roundw
        case rel => exact ⟨k + 1, rfl, by go_num, by omega, hext.trans hb3, hno.next HX.out HX2.out⟩
        case measure => simp [intOf]; omega
      · go_ret
        rw [hno.found HX.out HX2.out]
        exact ⟨rfl, hext.trans hb3⟩
    · obtain rfl : k = l.length := by omega
      go_wp2
      go_ret
      rw [hno.all]
      exact ⟨rfl, hext⟩
set_option maxHeartbeats 4000000 in
set_option maxRecDepth 100000 in
theorem delD_any (Kb : Blocks) (B : Nat) (v : Value) (l : List Dep) (w : World) (h : Grow 56 Kb B w v l) (hl : l.length ≤ 9223372036854775807) (F : Nat) (caps : Array Value) (hF : ∀ (args : Array Value) (wy : World), (callFunc F args).run Try.prog wy = .ok (.enter F args) wy) (p : Dep → Bool)
    (hp : ∀ (x : Dep) (wy : World), x ∈ l → But w wy v → Calls Try.prog F (#[x.val] ++ caps) wy fun e w' => e = .returned (.bool (p x)) ∧ Ev.Ext wy w') :
    Calls Try.prog 53 #[v, .func (.func F) #[] caps] w fun e w' => ∃ v', e = .returned v' ∧ But w w' v ∧ Grow 56 Kb B w' v' (strike p l) := by
  have hsl := h.sl hl
  have HP := Lib.hid hp
  clear hp
  rcases idxB_spec p l with ⟨hi, hno⟩ | ⟨k0, hi, hk0, hpk, hno⟩
  · have e : strike p l = l := strike_all hno
    have HE := Lib.hid e
    have HI := Lib.hid hi
    clear e hi
    go_enter Try.func53, Try.ntmps53
    go_wp2_with fail
    refine (indexD_any v l _ w hsl F caps hF p (fun x wy hx hy => HP.out x wy hx (But.of_ext v hy))).mono ?_
    rintro e w1 ⟨rfl, hb1⟩
    rw [HI.out]
    go_wp2
    go_ret
    rw [HE.out]
    exact ⟨_, rfl, But.of_ext v hb1, h.ext hb1⟩
  · obtain ⟨rows, hown, hall⟩ := h.ex
    obtain ⟨L, hL1, hL2, hL3⟩ := all2_zip hall
    have hlen : L.length = l.length := by rw [← hL2]; simp
    rcases hown.2 with ⟨rfl, h0⟩ | ⟨g, cap, cur, rfl, hBg, hg, hnc, hcm, hcs, htake⟩
    · omega
    have hrl := rows_len hall
    have hLr : ∀ (j : Nat) (hj : j < L.length), L[j].1.length = 3 := fun j hj => hrl _ (by rw [← hL1]; exact List.mem_map.2 ⟨_, List.getElem_mem hj, rfl⟩)
    have hLe : ∀ (j : Nat) (hj : j < l.length), ∃ hj' : j < L.length, L[j].1 = [.string l[j].key, .int .i64 l[j].n, .int .i64 l[j].s] ∧ L[j].2 = l[j] := fun j hj => by
      have hj' : j < L.length := by omega
      have e2 : L[j].2 = l[j] := by simp [← hL2]
      obtain ⟨h1, _⟩ := hL3 _ (List.getElem_mem hj')
      rw [e2] at h1
      exact ⟨hj', h1, e2⟩
    have hfl := flat_length hrl
    have hrows : rows.length = l.length := hall.length
    have HI := Lib.hid hi
    have hd0 : DelAt 56 3 w g L (cur.toList.drop (l.length * 3)) p k0 (k0 + 1) := by
      obtain ⟨hk1, _, e2⟩ := hLe k0 hk0
      have hno2 : NoTo (p ∘ Prod.snd) L k0 := fun i x hi hx => by
        have hx2 : l[i]? = some x.2 := by rw [← hL2]; simp [hx]
        exact hno i _ hi hx2
      have es := strike_snoc (p ∘ Prod.snd) L hk1
      rw [show (p ∘ Prod.snd) L[k0] = true from by simp [e2, hpk]] at es
      simp at es
      refine ⟨⟨rows, ?_, hrl, by omega, ?_, by rw [← hL1, List.map_drop]⟩, ?_, by omega⟩
      · rw [hg, ← htake, show GoT.n Dep = 3 from rfl, List.take_append_drop]
      · rw [es, strike_none hno2 (by omega), ← hL1, List.map_take]
      · rw [es, strike_none hno2 (by omega)]; simp; omega
    clear hi hall hown h htake hg hfl
    go_enter Try.func53, Try.ntmps53
    go_wp2_with fail
    refine (indexD_any _ l _ w hsl F caps hF p (fun x wy hx hy => HP.out x wy hx (But.of_ext _ hy))).mono ?_
    rintro e w1 ⟨rfl, hb1⟩
    rw [HI.out]
    have hd1 := hd0.ext hb1
    have hbut := But.of_ext (.slice (some ⟨g, 0, none⟩) l.length cap) hb1
    have hkz : ((k0 : Int) == -1) = false := by simp <;> omega
    clear hb1 hno hpk hsl hd0 hrows hrl
    have HL2 := Lib.hid hL2
    have HL1 := Lib.hid hL1
    have HLE := Lib.hid hlen
    clear hL1 hL2
    go_wp2_with fail
    go_loopw [5, 6] (fun i j wr => ∃ (a b : Nat), i = .int .i64 a ∧ j = .int .i64 b ∧ a < b ∧ But w wr (.slice (some ⟨g, 0, none⟩) l.length cap) ∧ DelAt 56 3 wr g L (cur.toList.drop (l.length * 3)) p a b) (fun _ j _ => l.length - (intOf j).toNat)
    case atStart => exact ⟨k0, k0 + 1, rfl, by go_num, by omega, hbut, hd1⟩
    case round =>
      obtain ⟨a, b, rfl, rfl, hab, hbr, hd⟩ := hrel
      have hle := hd.le
      by_cases h1 : b < l.length
      · obtain ⟨h2, hr, hx⟩ := hLe b h1
        have c0 : wr.cell? ⟨g, b * 3, none⟩ = some (.string l[b].key) := hd.cell h2 0 _ (by rw [hr]; rfl)
        have c1 : wr.cell? ⟨g, b * 3 + 1, none⟩ = some (.int .i64 l[b].n) := hd.cell h2 1 _ (by rw [hr]; rfl)
        have c2 : wr.cell? ⟨g, b * 3 + 2, none⟩ = some (.int .i64 l[b].s) := hd.cell h2 2 _ (by rw [hr]; rfl)
        have hc2 := HP.out l[b] (wr.alloc (.cells #[.string l[b].key, .int .i64 l[b].n, .int .i64 l[b].s] 56)) (List.getElem_mem h1) (hbr.trans (But.of_ext (.slice (some ⟨g, 0, none⟩) l.length cap) (extA _ _)) rfl)
        unfold Dep.val at hc2
        have HR := Lib.hid hr
        have HX := Lib.hid hx
        clear hr hx
        cases hpx : p l[b]
        all_goals
          rw [hpx] at hc2
          have HX2 := Lib.hid hpx
          clear hpx
          go_wp2_with fail
          refine hc2.mono ?_; rintro e w3 ⟨rfl, hb3⟩
          clear hc2
          have hbr3 := (hbr.trans (But.of_ext (.slice (some ⟨g, 0, none⟩) l.length cap) (extA _ _)) rfl).trans (But.of_ext (.slice (some ⟨g, 0, none⟩) l.length cap) hb3) rfl
          have hd3 := (hd.ext (extA wr (.cells #[.string l[b].key, .int .i64 l[b].n, .int .i64 l[b].s] 56))).ext hb3
        · obtain ⟨⟨u0, cu0⟩, zu0⟩ := hd3.there (k := a * 3) (by omega)
          obtain ⟨⟨u1, cu1⟩, zu1⟩ := hd3.there (k := a * 3 + 1) (by omega)
          obtain ⟨⟨u2, cu2⟩, zu2⟩ := hd3.there (k := a * 3 + 2) (by omega)
          have f0 : w3.cell? ⟨wr.heap.size, 0, none⟩ = some (.string l[b].key) := cell_later hb3 (by simp)
          have f1 : w3.cell? ⟨wr.heap.size, 1, none⟩ = some (.int .i64 l[b].n) := cell_later hb3 (by simp)
          have f2 : w3.cell? ⟨wr.heap.size, 2, none⟩ = some (.int .i64 l[b].s) := cell_later hb3 (by simp)
          have hkeep := hd3.keep h2 (by rw [HX.out]; exact HX2.out) (hLr b h2)
          rw [HR.out] at hkeep
          have hbk := hbr3.trans (setCells_but g (.slice (some ⟨g, 0, none⟩) l.length cap) rfl [.string l[b].key, .int .i64 l[b].n, .int .i64 l[b].s] (a * 3) w3) rfl
          have HK := Lib.hid hkeep
          have HB := Lib.hid hbk
          clear hkeep hbk
          go_wp2
          go_roundw
          case rel => exact ⟨a + 1, b + 1, by go_num, by go_num, by omega, HB.out, HK.out⟩
          case measure => simp [intOf]; omega
        · go_wp2
          go_roundw
          case rel => exact ⟨a, b + 1, by go_num, by go_num, by omega, hbr3, hd3.drop h2 (by rw [HX.out]; exact HX2.out)⟩
          case measure => simp [intOf]; omega
      · obtain rfl : b = l.length := by omega
        have hal : a < l.length := hab
        have hac : a ≤ cap := by omega
        have hlc : l.length ≤ cap := by omega
        have hne : ¬ cap = a := by omega
        have hn0 : 0 < l.length - a := by omega
        have hz3 : (Value.agg #[.string ⟨#[]⟩, .int .i64 0, .int .i64 0]).cells.size = 3 := rfl
        have hcl : ∀ ty, (Builtin.clear_ #[27] ty #[.slice (some ⟨g, a * 3, none⟩) (l.length - a) (cap - a)]).run Try.prog wr = .ok (.tuple #[]) (wr.setCells g (a * 3) (Builtin.zeroCells #[.string ⟨#[]⟩, .int .i64 0, .int .i64 0] (l.length - a)).toList) := fun ty =>
          run_clear_rows (P := Try.prog) wr 27 56 ty (.agg #[.string ⟨#[]⟩, .int .i64 0, .int .i64 0]) Try.underlying27 (fun w => by kernel_rfl) (by intro c hc; simp [Value.cells] at hc; rcases hc with rfl | rfl <;> rfl) g (a * 3) (l.length - a) (cap - a) hn0
            (fun j hj => by rw [hz3] at hj; obtain ⟨⟨u, cu⟩, _⟩ := hd.there (k := a * 3 + j) (by omega); rw [cu]; rfl) (fun j hj => by rw [hz3] at hj; exact (hd.there (k := a * 3 + j) (by omega)).2)
        have hZ : (Builtin.zeroCells #[.string ⟨#[]⟩, .int .i64 0, .int .i64 0] (l.length - a)).toList.length = (l.length - a) * 3 := by simp [Builtin.zeroCells]
        have hdd := hd
        rw [← hlen] at hdd
        have hlast := hdd.last (Builtin.zeroCells #[.string ⟨#[]⟩, .int .i64 0, .int .i64 0] (l.length - a)).toList (by rw [hZ, hlen])
        have hsl2 := hdd.len
        rw [List.take_length] at hsl2
        have hmap : (strike (p ∘ Prod.snd) L).map Prod.snd = strike p l := by rw [← HL2.out, strike_map]
        have hsn : (strike p l).length = a := by rw [← hmap, List.length_map, hsl2]
        have hbz := hbr.trans (setCells_but g (.slice (some ⟨g, 0, none⟩) l.length cap) rfl (Builtin.zeroCells #[.string ⟨#[]⟩, .int .i64 0, .int .i64 0] (l.length - a)).toList (a * 3) wr) rfl
        have hfin : Grow 56 Kb B (wr.setCells g (a * 3) (Builtin.zeroCells #[.string ⟨#[]⟩, .int .i64 0, .int .i64 0] (l.length - a)).toList) (.slice (some ⟨g, 0, none⟩) a cap) (strike p l) := by
          have hrow : ∀ r ∈ (strike (p ∘ Prod.snd) L).map Prod.fst, r.length = 3 := fun r hr => by
            obtain ⟨x, hx, rfl⟩ := List.mem_map.1 hr
            obtain ⟨j, hj, rfl⟩ := List.getElem_of_mem (List.mem_filter.1 hx).1
            exact hLr j hj
          have hfl := flat_length hrow
          rw [List.length_map, hsl2] at hfl
          refine ⟨⟨(strike (p ∘ Prod.snd) L).map Prod.fst, ⟨by rw [hfl, hsn]; rfl, .inr ⟨g, cap, _, by rw [hsn], hBg, hlast, by omega, hcm, ?_, ?_⟩⟩, ?_⟩⟩
          · simp only [List.size_toArray, List.length_append, List.length_drop, Array.length_toList, hZ, hfl, hcs]
            rw [show GoT.n Dep = 3 from rfl]; omega
          · rw [hsn, show GoT.n Dep = 3 from rfl]
            simp only [List.toList_toArray]
            rw [List.take_append_of_le_length (by omega), List.take_of_length_le (by omega)]
          · rw [← hmap]
            refine all2_unzip _ fun x hx => ?_
            refine GoT.mono (fun b hb hlt => ⟨?_, hbz.block b hlt ?_⟩) (hL3 x (List.mem_filter.1 hx).1)
            · exact hb
            · intro e
              rcases hb with ⟨_, hb⟩ | ⟨_, hb⟩
              · simp [Value.ownBlock] at e; omega
              · exact hb e.symm
        have HF := Lib.hid hfin
        have HB := Lib.hid hbz
        clear hfin hbz hlast hsl2 hmap hsn hZ hdd hlen hLe hLr
        go_wp2
        go_ret
        exact ⟨_, rfl, HB.out, HF.out⟩
end Go.Proofs.Ytbdejgbjelfbeaa
