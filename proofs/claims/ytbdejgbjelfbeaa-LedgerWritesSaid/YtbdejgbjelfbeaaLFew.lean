/- few, good: the law's events, made plain. -/
import Derived.Test.YtbdejgbjelfbeaaDAdd
import Derived.Test.YtbdejgbjelfbeaaLTwice
set_option linter.unusedSimpArgs false
set_option linter.unusedVariables false
namespace Go.Proofs.Ytbdejgbjelfbeaa
open Go.RowKit R
namespace L
def cutD (d : Dep) : Dep := ⟨d.key.extract 0 12, d.n, d.s⟩
def addsD (l : List Dep) : List Dep := l.foldl (fun p d => D.add p (cutD d)) []
def seen5 (l : List Dep) : List Dep := addsD (l.take 5)
def cutE (e : Event) : Event := ⟨e.kind, e.client, e.key.extract 0 12, e.n, e.s, seen5 e.seen⟩
def few (l : List Event) : List Event := (l.take 10).map cutE
def good (l : List Event) : List Event := (few l).filter check
theorem addsD_snoc (l : List Dep) (d : Dep) : addsD (l ++ [d]) = D.add (addsD l) (cutD d) := by simp [addsD]
theorem cut_size (s : ByteArray) : (s.extract 0 12).size ≤ 12 := by simp; omega
theorem addsD_mem (l : List Dep) : ∀ x ∈ addsD l, ∃ d ∈ l, x = cutD d := by
  have : ∀ (l : List Dep) (p : List Dep), ∀ x ∈ l.foldl (fun p d => D.add p (cutD d)) p, x ∈ p ∨ ∃ d ∈ l, x = cutD d := by
    intro l
    induction l with
    | nil => intro p x h; exact .inl h
    | cons d r ih =>
      intro p x h
      rw [List.foldl_cons] at h
      rcases ih _ x h with h | ⟨y, hy, e⟩
      · rcases D.add_mem p _ x h with h | h
        · exact .inl h
        · exact .inr ⟨d, by simp, h⟩
      · exact .inr ⟨y, by simp [hy], e⟩
  intro x hx
  rcases this l [] x hx with h | h
  · cases h
  · exact h
theorem addsD_len (l : List Dep) : (addsD l).length ≤ l.length := by
  have : ∀ (l : List Dep) (p : List Dep), (l.foldl (fun p d => D.add p (cutD d)) p).length ≤ p.length + l.length := by
    intro l
    induction l with
    | nil => intro p; simp
    | cons d r ih =>
      intro p
      rw [List.foldl_cons]
      have h1 := ih (D.add p (cutD d))
      have h2 := D.add_len p (cutD d)
      simp only [List.length_cons]; omega
  have := this l []
  simpa [addsD] using this
theorem few_fit (l : List Event) : fit (few l) := by
  intro e he
  unfold few at he
  obtain ⟨x, _, rfl⟩ := List.mem_map.1 he
  refine ⟨Nat.le_trans (cut_size _) (by omega), fun d hd => ?_⟩
  obtain ⟨y, _, rfl⟩ := addsD_mem _ d hd
  exact Nat.le_trans (cut_size _) (by omega)
theorem few_len (l : List Event) : (few l).length ≤ 10 := by unfold few; simp; omega
theorem good_fit (l : List Event) : fit (good l) := fun e he => few_fit l e (List.mem_filter.1 he).1
theorem good_len (l : List Event) : (good l).length ≤ 10 := Nat.le_trans (List.length_filter_le _ _) (few_len l)
theorem good_check (l : List Event) : ∀ e ∈ good l, check e = true := fun e he => (List.mem_filter.1 he).2
end L
theorem event_row (e : Event) (v : Value) (h : e.key.size ≤ 9223372036854775807 ∧ inI e.kind ∧ inI e.client ∧ inI e.n ∧ inI e.s) {K : Blocks} {w : World} (hs : Sl K w v e.seen) :
    All2 (GoT.rep K w) [[.int .i64 e.kind, .int .i64 e.client, .string e.key, .int .i64 e.n, .int .i64 e.s, v]] [e] := .cons ⟨v, rfl, h, hs⟩ .nil
/-- The events' variable of few's loop. -/
theorem ev_box {w w' : World} {b : Nat} {x0 x1 x2 x3 x4 x5 : Value} {T : TypeId} (h : w.heap[b]? = some (.cells #[x0, x1, x2, x3, x4, x5] T)) (he : Ev.Ext w w') : w'.heap[b]? = some (.cells #[x0, x1, x2, x3, x4, x5] T) := (he.block b (Array.getElem?_eq_some_iff.1 h).1).trans h
theorem ev_set5 {w : World} {b : Nat} {x0 x1 x2 x3 x4 x5 u : Value} {T : TypeId} (h : w.heap[b]? = some (.cells #[x0, x1, x2, x3, x4, x5] T)) : (w.setCell ⟨b, 5, none⟩ u).heap[b]? = some (.cells #[x0, x1, x2, x3, x4, u] T) := by simp [World.setCell, Array.getElem?_modify, h]
theorem ev_set2 {w : World} {b : Nat} {x0 x1 x2 x3 x4 x5 u : Value} {T : TypeId} (h : w.heap[b]? = some (.cells #[x0, x1, x2, x3, x4, x5] T)) : (w.setCell ⟨b, 2, none⟩ u).heap[b]? = some (.cells #[x0, x1, u, x3, x4, x5] T) := by simp [World.setCell, Array.getElem?_modify, h]
theorem unfrozen {w : World} {b : Nat} {cs : Array Value} {T : TypeId} (h : w.heap[b]? = some (.cells cs T)) (i : Nat) : w.frozen? ⟨b, i, none⟩ = false := by simp [World.frozen?, h]
abbrev NewK (B : Nat) : Blocks := fun b => B ≤ b
/-- What stands as the events' variable is appended. -/
theorem few_app {E : TypeId} {Kb : Blocks} {w wo W1 wr : World} {u pv : Value} {out : List Event} {sn : List Dep} (hg : Grow E Kb w.heap.size wo u out) (hEw : Ev.Ext w wo) (hEo : Ev.Ext wo W1) (hbx : wo.heap.size < W1.heap.size) (heq : Ev.Ext W1 wr) (hs : Sl (NewK W1.heap.size) wr pv sn) (o : Obj) :
    Grow E Kb w.heap.size ((wr.setCell ⟨wo.heap.size, 5, none⟩ pv).alloc o) u out ∧ Sl (elemK Kb w.heap.size u) ((wr.setCell ⟨wo.heap.size, 5, none⟩ pv).alloc o) pv sn ∧ Ev.Ext w ((wr.setCell ⟨wo.heap.size, 5, none⟩ pv).alloc o) := by
  have h1 : Ev.Ext wo ((wr.setCell ⟨wo.heap.size, 5, none⟩ pv).alloc o) := Ev.Ext.trans ((hEo.trans heq).setCell (Nat.le_refl _) _) (extA _ _)
  refine ⟨hg.ext h1, hs.mono fun b hb hlt => ⟨.inr ⟨?_, fun e => ?_⟩, ?_⟩, hEw.trans h1⟩
  · exact Nat.le_trans (hEw.trans hEo).size hb
  · obtain ⟨_, cur, hc⟩ := grow_own (hg.ext hEo) b e
    have := (Array.getElem?_eq_some_iff.1 hc).1
    have hb' : W1.heap.size ≤ b := hb
    omega
  · have hb' : W1.heap.size ≤ b := hb
    rw [(extA (wr.setCell ⟨wo.heap.size, 5, none⟩ pv) o).block b (by simpa [World.setCell] using hlt)]
    exact Below.heap_setCell _ _ _ _ (by show b ≠ wo.heap.size; omega)
theorem heap_set1 (w : World) (a : Addr) (x : Value) (o : Obj) : ((w.setCell a x).alloc o).heap[w.heap.size]? = some o := by
  have := heap_alloc_new (w.setCell a x) o
  simpa [World.setCell] using this
set_option maxHeartbeats 8000000 in
set_option maxRecDepth 100000 in
theorem few_any (v : Value) (l : List Event) (Kb : Blocks) (w : World) (h : Sl Kb w v l) :
    Calls Try.prog 12 #[v] w fun r w' => ∃ v', r = .returned v' ∧ Ev.Ext w w' ∧ Sl (fun _ => True) w' v' (L.few l) := by
  obtain ⟨a, cap, rfl⟩ := h.form
  have hlen := h.len_le
  go_enter Try.func12, Try.ntmps12
  go_wp2_with fail
  go_loopw [3, 4] (fun o i wr => ∃ (k : Nat), i = .int .i64 k ∧ k ≤ l.length ∧ k ≤ 10 ∧ Ev.Ext w wr ∧ Grow 29 Kb w.heap.size wr o ((l.take k).map L.cutE)) (fun _ i _ => l.length - (intOf i).toNat)
  case atStart => exact ⟨0, rfl, by omega, by omega, Ev.Ext.refl _, Grow.nil _ _ _ _⟩
  case round =>
    obtain ⟨k, rfl, hk, hk2, hext, hg⟩ := hrel
    by_cases h1 : k < l.length
    · by_cases h2 : k < 10
      · obtain ⟨b, o, vs, rfl, hKb, hsz, hsl, c0, c1, c2, c3, c4, c5⟩ := (event_cells h).2 k l[k] (by simp [h1])
        have hslB := hsl.bound
        obtain ⟨a2, cap2, rfl⟩ := hsl.form
        have c0 := cell_later hext c0
        have c1 := cell_later hext c1
        have c2 := cell_later hext c2
        have c3 := cell_later hext c3
        have c4 := cell_later hext c4
        have c5 := cell_later hext c5
        go_wp2_with fail
        refine (lshort_any _ _).mono ?_; rintro e w3 ⟨rfl, rfl⟩
        have hcl := hsz
        have hW1 : (wr.alloc (.cells #[.int .i64 l[k].kind, .int .i64 l[k].client, .string (l[k].key.extract 0 12), .int .i64 l[k].n, .int .i64 l[k].s, .slice a2 l[k].seen.length cap2] 29)).heap[wr.heap.size]? = _ := heap_alloc_new _ _
        have hE1 := hext.trans (extA wr (.cells #[.int .i64 l[k].kind, .int .i64 l[k].client, .string (l[k].key.extract 0 12), .int .i64 l[k].n, .int .i64 l[k].s, .slice a2 l[k].seen.length cap2] 29))
        have hEo := extA wr (.cells #[.int .i64 l[k].kind, .int .i64 l[k].client, .string (l[k].key.extract 0 12), .int .i64 l[k].n, .int .i64 l[k].s, .slice a2 l[k].seen.length cap2] 29)
        have hlen2 := hslB.len_le
        go_upto_region 7 with fail
        generalize wr.alloc (.cells #[.int .i64 l[k].kind, .int .i64 l[k].client, .string (l[k].key.extract 0 12), .int .i64 l[k].n, .int .i64 l[k].s, .slice a2 l[k].seen.length cap2] 29) = W1 at *
        have hbx := (Array.getElem?_eq_some_iff.1 hW1).1
        have hcut : (l.take (k + 1)).map L.cutE = (l.take k).map L.cutE ++ [L.cutE l[k]] := by rw [List.take_succ_eq_append_getElem h1, List.map_append]; rfl
        have HCUT := Lib.hid hcut
        have hcz0 := L.cut_size l[k].key
        have HG := Lib.hid hg
        clear c0 c1 c2 c3 c4 c5 hsl h hcut hg
        go_wp2_with fail
        go_loopw [6, 7] (fun p i wq => ∃ (j : Nat), i = .int .i64 j ∧ j ≤ l[k].seen.length ∧ j ≤ 5 ∧ Ev.Ext W1 wq ∧ Sl (NewK W1.heap.size) wq p (L.addsD (l[k].seen.take j))) (fun _ i _ => l[k].seen.length - (intOf i).toNat)
        case atStart => exact ⟨0, rfl, by omega, by omega, Ev.Ext.refl _, Sl.nil _ _⟩
        case round =>
          obtain ⟨j, rfl, hj, hj5, heq, hsp⟩ := hrel
          have hb := ev_box hW1 heq
          obtain ⟨c0, c1, c2, c3, c4, c5⟩ := six_of hb
          by_cases h3 : j < l[k].seen.length
          · by_cases h4 : j < 5
            · obtain ⟨b2, o2, rfl, hKb2, ⟨hxs, hxn, hxq⟩, _, _, _⟩ := (dep_cells hslB).2 j l[k].seen[j] (by simp [h3])
              have LD := Lib.hid (fun w' (he : Ev.Ext wr w') => And.intro (dep_load hslB ((hE1.trans heq).trans he) rfl h3) (six_ext he (six_of hb)))
              have hsn : L.addsD (l[k].seen.take (j + 1)) = D.add (L.addsD (l[k].seen.take j)) (L.cutD l[k].seen[j]) := by rw [List.take_succ_eq_append_getElem h3, L.addsD_snoc]
              have hln := L.addsD_len (l[k].seen.take j)
              rw [List.length_take] at hln
              have hl1000 : (L.addsD (l[k].seen.take j)).length ≤ 1000 := by omega
              have hcz := L.cut_size l[k].seen[j].key
              have HSN := Lib.hid hsn
              clear hsn hW1 hb c0 c1 c2 c3 c4 c5
              have H5 := LD.out wr (Ev.Ext.refl _)
              obtain ⟨_, _, _, _, _, _, c5⟩ := H5
              go_wp2_with fail
              clear c5
              refine Ev.wp_region_tail (Ev.Ext wr) (Ev.Ext) 15 (by kernel_rfl) (by kernel_rfl) Ev.Ext.refl (fun _ _ h k => k.trans h) (Ev.Ext.refl _).tick ?_
              simp only [List.take, List.drop]
              repeat
                first
                | (apply Ev.walk_eq
                   · intro u wx hcx hfx
                     have hk4 := LD.out wx hcx
                     try simp at hfx
                     try go_simp
                     first
                       | rfl
                       | (intro K hK
                          try go_simp
                          first
                            | (refine hK _ ?_; first | exact Ev.Ext.refl _ | assumption)
                            | (first | (go_at_call 28; refine (lshort_any _ _).mono ?_; rintro e wy ⟨rfl, rfl⟩; exact ⟨_, rfl, hK _ (Ev.Ext.refl _)⟩))))
                | (fail)
                try simp only [List.nil_append]
                try simp only [List.cons_append]
              intro u wx hcx hfx
              simp at hfx
              simp only [Ev.putU, Act.put, List.setIfInBounds_toArray, List.set_cons_zero, List.set_cons_succ]
              obtain ⟨e0, _, _, _, _, _, _, _, _, _, _, _, _, _, e14⟩ := hfx
              simp only [e0, e14]
              have hspx := hsp.ext hcx
              clear e0 e14 hsp
              go_wp2_with fail
              refine (dadd_any _ _ (L.cutD l[k].seen[j]) (by unfold L.cutD; simp only; omega) hxn hxq hl1000 _ _ hspx).mono ?_; rintro e w6 ⟨v6, rfl, hx6, hs6⟩
              have hs7 : Sl (NewK W1.heap.size) w6 v6 (L.addsD (l[k].seen.take (j + 1))) := by
                rw [HSN.out]
                exact hs6.mono fun b hb _ => ⟨by rcases hb with ⟨h, _⟩ | h
                                                 · exact h
                                                 · exact Nat.le_trans (Nat.le_trans heq.size hcx.size) h, rfl⟩
              have hx7 := (heq.trans hcx).trans hx6
              clear hs6 hspx
              go_wp2
              go_roundw
              case rel => exact ⟨j + 1, by go_num, by omega, by omega, hx7, hs7⟩
              case measure => simp [intOf]; omega
            · obtain rfl : j = 5 := by omega
              have hsp5 : Sl (NewK W1.heap.size) wr u6 (L.seen5 l[k].seen) := hsp
              have hfz := unfrozen hb 5
              obtain ⟨ap, capp, rfl⟩ := hsp5.form
              have HA := Lib.hid (few_app (pv := .slice ap (L.seen5 l[k].seen).length capp) HG.out hext hEo hbx heq hsp5)
              go_wp2_with (at_builtin; refine R.wpList_append rfl _ _ 22 rfl event_elem _ _ rfl (HA.out _).1 ⟨_, 0, none⟩ 1 [L.cutE l[k]] rfl [[.int .i64 l[k].kind, .int .i64 l[k].client, .string (l[k].key.extract 0 12), .int .i64 l[k].n, .int .i64 l[k].s, .slice ap (L.seen5 l[k].seen).length capp]] (event_row (L.cutE l[k]) _ ⟨by show (l[k].key.extract 0 12).size ≤ _; omega, hcl.2⟩ (HA.out _).2.1) (row_cells (heap_set1 _ _ _ _)) (by simp [maxLen]; omega) (by simp; omega) (HA.out _).2.2.size ?_; intro v1 w9 hg9 hgb9)
              go_roundw
              case rel => exact ⟨k + 1, by go_num, by omega, by omega, grown_below (HA.out _).2.2 hgb9 (HA.out _).2.2.size HG.out.base, HCUT.out ▸ hg9⟩
              case measure => simp [intOf]; omega
          · obtain rfl : j = l[k].seen.length := by omega
            have hsp5 : Sl (NewK W1.heap.size) wr u6 (L.seen5 l[k].seen) := by
              have e : L.seen5 l[k].seen = L.addsD (l[k].seen.take l[k].seen.length) := by unfold L.seen5; rw [List.take_of_length_le (by omega), List.take_of_length_le (by omega)]
              rw [e]; exact hsp
            have hfz := unfrozen hb 5
            obtain ⟨ap, capp, rfl⟩ := hsp5.form
            have HA := Lib.hid (few_app (pv := .slice ap (L.seen5 l[k].seen).length capp) HG.out hext hEo hbx heq hsp5)
            go_wp2_with (at_builtin; refine R.wpList_append rfl _ _ 22 rfl event_elem _ _ rfl (HA.out _).1 ⟨_, 0, none⟩ 1 [L.cutE l[k]] rfl [[.int .i64 l[k].kind, .int .i64 l[k].client, .string (l[k].key.extract 0 12), .int .i64 l[k].n, .int .i64 l[k].s, .slice ap (L.seen5 l[k].seen).length capp]] (event_row (L.cutE l[k]) _ ⟨by show (l[k].key.extract 0 12).size ≤ _; omega, hcl.2⟩ (HA.out _).2.1) (row_cells (heap_set1 _ _ _ _)) (by simp [maxLen]; omega) (by simp; omega) (HA.out _).2.2.size ?_; intro v1 w9 hg9 hgb9)
            go_roundw
            case rel => exact ⟨k + 1, by go_num, by omega, by omega, grown_below (HA.out _).2.2 hgb9 (HA.out _).2.2.size HG.out.base, HCUT.out ▸ hg9⟩
            case measure => simp [intOf]; omega
      · obtain rfl : k = 10 := by omega
        go_wp2
        go_ret
        exact ⟨_, rfl, hext, (hg.sl (by simp; omega)).mono fun b _ _ => ⟨trivial, rfl⟩⟩
    · obtain rfl : k = l.length := by omega
      have e : L.few l = (l.take l.length).map L.cutE := by unfold L.few; rw [List.take_of_length_le (by omega), List.take_of_length_le (by omega)]
      have HE := Lib.hid e
      clear e
      go_wp2
      go_ret
      rw [HE.out]
      exact ⟨_, rfl, hext, (hg.sl (by simp; omega)).mono fun b _ _ => ⟨trivial, rfl⟩⟩
end Go.Proofs.Ytbdejgbjelfbeaa
