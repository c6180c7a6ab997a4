/- A part: the ledger's walk. -/
import Derived.Test.YtbdejgbjelfbeaaLPart0
import Derived.Test.YtbdejgbjelfbeaaRBld
import Derived.Test.YtbdejgbjelfbeaaEv2
import Derived.Test.YtbdejgbjelfbeaaVStamp
import Derived.Test.YtbdejgbjelfbeaaLCheck2
import Derived.Deep.DeepCutAuto
set_option linter.unusedSimpArgs false
set_option linter.unusedVariables false
namespace Go.Proofs.Ytbdejgbjelfbeaa
open Go.RowKit R
theorem six_of {w : World} {b : Nat} {x0 x1 x2 x3 x4 x5 : Value} {T : TypeId} (h : w.heap[b]? = some (.cells #[x0, x1, x2, x3, x4, x5] T)) :
    w.cell? ⟨b, 0, none⟩ = some x0 ∧ w.cell? ⟨b, 1, none⟩ = some x1 ∧ w.cell? ⟨b, 2, none⟩ = some x2 ∧ w.cell? ⟨b, 3, none⟩ = some x3 ∧ w.cell? ⟨b, 4, none⟩ = some x4 ∧ w.cell? ⟨b, 5, none⟩ = some x5 := by
  simp [World.cell?, h]
theorem two_of {w : World} {b : Nat} {x0 x1 : Value} {T : TypeId} (h : w.heap[b]? = some (.cells #[x0, x1] T)) : w.cell? ⟨b, 0, none⟩ = some x0 ∧ w.cell? ⟨b, 1, none⟩ = some x1 := by
  simp [World.cell?, h]
theorem but_block {w w' : World} {v : Value} {B k : Nat} (h : But w w' v) (hv : ∀ b, v.ownBlock = some b → B ≤ b) (hk : k < B) (hkw : k < w.heap.size) : w'.heap[k]? = w.heap[k]? :=
  h.block k hkw (fun e => by have := hv k e.symm; omega)
theorem smap_at {w w' : World} {b n : Nat} {m : ByteArray → Option (Int × Int)} (h : SMap w b n m) (he : w'.heap[b]? = w.heap[b]?) : SMap w' b n m := h.mono he (fun _ _ h => h)
theorem one_of {w : World} {b : Nat} {x : Value} {T : TypeId} (h : w.heap[b]? = some (.cells #[x] T)) : w.cell? ⟨b, 0, none⟩ = some x ∧ w.frozen? ⟨b, 0, none⟩ = false := by simp [World.cell?, World.frozen?, h]
theorem smap_ne {w : World} {b n x : Nat} {m : ByteArray → Option (Int × Int)} (h : SMap w b n m) {cs : Array Value} {T : TypeId} (hx : w.heap[x]? = some (.cells cs T)) : b ≠ x := by
  obtain ⟨es, c, h1, _⟩ := h
  rintro rfl
  rw [h1] at hx; cases hx
theorem setCell_at {w : World} {x : Nat} {v u : Value} {T : TypeId} (h : w.heap[x]? = some (.cells #[v] T)) : (w.setCell ⟨x, 0, none⟩ u).heap[x]? = some (.cells #[u] T) := by simp [World.setCell, Array.getElem?_modify, h]
theorem setCell_other {w : World} {x k : Nat} {u : Value} (h : k ≠ x) : (w.setCell ⟨x, 0, none⟩ u).heap[k]? = w.heap[k]? := Below.heap_setCell _ _ _ _ h
theorem ext_set {w w' : World} (h : Ev.Ext w w') {x : Nat} (hx : w.heap.size ≤ x) (u : Value) : Ev.Ext w (w'.setCell ⟨x, 0, none⟩ u) := h.setCell hx _
theorem grow_kp {Kb : Blocks} {B b : Nat} {w w' : World} {v : Value} {xs : List Dep} (h : Grow 56 Kb B w v xs) (hk : Kp b w w') (hb : b < B) : Grow 56 Kb B w' v xs := by
  obtain ⟨rows, hown, hall⟩ := h.ex
  refine ⟨⟨rows, ⟨hown.1, ?_⟩, hall.imp fun r x hr => hr⟩⟩
  rcases hown.2 with hn | ⟨g, cap, cur, hv, hbg, hg, rest⟩
  · exact .inl hn
  · exact .inr ⟨g, cap, cur, hv, hbg, hk.block hg (by decide) (by omega), rest⟩
theorem stamp_len (n s : Int) : (V.stamp n s).length ≤ 20 := by
  unfold V.stamp
  split
  · rename_i h
    obtain ⟨h1, h2, h3, h4⟩ := V.stampB_iff.1 h
    have a := V.num_len64 (n := n.toNat) (by omega)
    have b := V.num_len64 (n := s.toNat) (by omega)
    simp; omega
  · simp
theorem three_after {w w1 : World} {x0 x1 x2 : Value} {T : TypeId} (he : Ev.Ext (w.alloc (.cells #[x0, x1, x2] T)) w1) :
    w1.cell? ⟨w.heap.size, 0, none⟩ = some x0 ∧ w1.cell? ⟨w.heap.size, 1, none⟩ = some x1 ∧ w1.cell? ⟨w.heap.size, 2, none⟩ = some x2 :=
  ⟨cell_later he (by simp), cell_later he (by simp), cell_later he (by simp)⟩
theorem dep_flat (l : List Dep) (h : ∀ d ∈ l, d.key.size ≤ 1000) : (l.flatMap L.depBytes).length ≤ 1030 * l.length ∧ (l.flatMap fun d => V.text d.key).length ≤ 1030 * l.length := by
  induction l with
  | nil => simp
  | cons d r ih =>
    have h1 := h d List.mem_cons_self
    have h2 := ih fun x hx => h x (List.mem_cons_of_mem _ hx)
    have t1 := V.num_len64 (n := d.key.size) (by omega)
    have t3 := stamp_len d.n d.s
    have t2 : (V.text d.key).length ≤ 1010 := by simp [V.text]; omega
    simp only [List.flatMap_cons, List.length_append, List.length_cons]
    have t4 : (L.depBytes d).length ≤ 1030 := by simp only [L.depBytes, List.length_append]; omega
    omega
def OfMap (B : Nat) (l : List Dep) (v : Value) (w : World) : Prop := ∃ b, v = .map (some b) ∧ B ≤ b ∧ SMap w b l.length (L.ofM l)
theorem OfMap.stable {B : Nat} {l : List Dep} : Ev.Stable Ev.Ext (OfMap B l) := fun v w w' h ⟨b, e, hb, hm⟩ => ⟨b, e, hb, smap_ext hm h⟩
theorem ba_size (l : List UInt8) : (V.ba l).size = l.length := by simp [ByteArray.size]
theorem number_z (z : Int) (n : Nat) (hn : n < 18446744073709551616) (hz : z = n) (w : World) :
    Calls Try.prog 26 #[.int .u64 z] w fun e w' => e = .returned (.string (V.ba (V.num n))) ∧ Ev.Ext w w' := by
  subst hz; exact number_any n hn w
theorem numRow2 {k c : Nat} {b : Nat} {w : World} {T : TypeId} (hk : k < 18446744073709551616) (hc : c < 18446744073709551616) (h : w.heap[b]? = some (.cells #[.int .u64 k, .int .u64 c] T)) : NumRow [k, c] (some ⟨b, 0, none⟩) w := by
  intro i m hm
  match i with
  | 0 => simp at hm; subst hm; exact ⟨hk, _, _, rfl, by simp [World.cell?, h]⟩
  | 1 => simp at hm; subst hm; exact ⟨hc, _, _, rfl, by simp [World.cell?, h]⟩
  | (i + 2) => simp at hm
set_option maxHeartbeats 8000000 in
set_option maxRecDepth 100000 in
theorem part_any (k c : Nat) (key : ByteArray) (n s : Int) (seen : List Dep) (v va : Value) (ahead : List Dep) (Kb : Blocks) (w : World) (hk : k ≤ 1000) (hc : c ≤ 1000) (hkey : key.size ≤ 1000)
    (hs : Sl Kb w v seen) (ha : Sl Kb w va ahead) (hsl : seen.length ≤ 64) (hal : ahead.length ≤ 64) (hsk : ∀ d ∈ seen, d.key.size ≤ 1000) (hak : ∀ d ∈ ahead, d.key.size ≤ 1000) :
    Calls Try.prog 25 #[.agg #[.int .i64 k, .int .i64 c, .string key, .int .i64 n, .int .i64 s, v], va] w fun r w' => r = .returned (.string (V.ba (L.part ⟨k, c, key, n, s, seen⟩ ahead))) ∧ Ev.Ext w w' := by
  obtain ⟨a, cap, rfl⟩ := hs.form
  obtain ⟨a', cap', rfl⟩ := ha.form
  have l1 := V.num_len64 (n := k) (by omega)
  have l2 := V.num_len64 (n := c) (by omega)
  have l3 := V.num_len64 (n := key.size) (by omega)
  have l4 : (V.text key).length ≤ 1010 := by simp [V.text]; omega
  have hno : ¬ 9223372036854775807 < (V.num k).length + (V.num c).length + (V.text key).length := by omega
  go_enter Try.func25, Try.ntmps25
  go_wp2_with fail
  obtain ⟨W, hW⟩ : ∃ W, W = (w.alloc (.cells #[.int .i64 k, .int .i64 c, .string key, .int .i64 n, .int .i64 s, .slice a seen.length cap] 29)).alloc (.cells #[.pointer none, .slice none 0 0] 77) := ⟨_, rfl⟩
  have hb0 : W.heap[w.heap.size]? = some (.cells #[.int .i64 k, .int .i64 c, .string key, .int .i64 n, .int .i64 s, .slice a seen.length cap] 29) := by
    rw [hW]; exact ((extA _ _).block _ (by simp)).trans (heap_alloc_new _ _)
  have hbk : IsBk (w.heap.size + 1) [] W := by rw [hW]; have := IsBk.fresh (w.alloc (.cells #[.int .i64 k, .int .i64 c, .string key, .int .i64 n, .int .i64 s, .slice a seen.length cap] 29)); simpa using this
  have hEW : Ev.Ext w W := by rw [hW]; exact extA2 _ _ _
  rw [← hW]
  clear hW
  have H0 := six_of hb0
  obtain ⟨c0, c1, c2, c3, c4, c5⟩ := H0
  have hwk : IntKind.u64.wrap (k : Int) = (k : Int) := by simp only [IntKind.wrap_u64]; omega
  have hwc : IntKind.u64.wrap (c : Int) = (c : Int) := by simp only [IntKind.wrap_u64]; omega
  refine Ev.wp_region_tail (Ev.Ext W) (Ev.Ext) 12 (by kernel_rfl) (by kernel_rfl) Ev.Ext.refl (fun _ _ h k => k.trans h) (Ev.Ext.refl _).tick ?_
  simp only [List.take, List.drop]
  repeat
    first
    | (first | (refine Ev.walk_rel (fun v _ => v = .string (V.ba (V.num k ++ V.num c))) (fun _ _ _ _ h => h) ?_ ?_; (intro u wx hcx hfx; (try simp at hfx); obtain ⟨b', f4, f5, f6⟩ := hfx; have f7 : _ = some (Obj.cells #[.int .u64 k, .int .u64 c] 51 _) := f6; go_simp; intro K hK; go_at_call 49; refine (join_any (some ⟨b', 0, none⟩) 2 [k, c] (by simp) _ (numRow2 (by omega) (by omega) f6)).mono ?_; rintro e wy ⟨rfl, hby⟩; exact ⟨_, rfl, hK _ _ hby (by simp)⟩)) | (refine Ev.walk_rel (NewRow W.heap.size #[.int .u64 k, .int .u64 c] 51 2) NewRow.stable ?_ ?_; (intro u wx hcx hfx; (try simp at hfx); go_simp; intro K hK; refine hK _ _ ?_ ⟨_, rfl, hcx.size, heap_alloc_new _ _⟩; exact (Below.refl _ _).alloc (Nat.le_refl _) _)))
    | (apply Ev.walk_eq
       · intro u wx hcx hfx
         have hk4 := six_ext hcx ⟨c0, c1, c2, c3, c4, c5⟩
         try simp at hfx
         try go_simp
         first
           | rfl
           | (intro K hK
              try go_simp
              first
                | (refine hK _ ?_; first | exact Ev.Ext.refl _ | assumption)
                | (first | (go_at_call 50; refine (text_any key (by omega) _).mono ?_; rintro e wy ⟨rfl, hby⟩; exact ⟨_, rfl, hK _ hby⟩))))
    | (fail)
    try simp only [List.nil_append]
    try simp only [List.cons_append]
  intro u wx hcx hfx
  simp at hfx
  simp only [Ev.putU, Act.put, List.setIfInBounds_toArray, List.set_cons_zero, List.set_cons_succ]
  obtain ⟨_, _, _, _, _, _, _, _, _, _, _, e11⟩ := hfx
  have hbk1 := hbk.ext hcx
  have hb1 : wx.heap[w.heap.size]? = some (.cells #[.int .i64 k, .int .i64 c, .string key, .int .i64 n, .int .i64 s, .slice a seen.length cap] 29) := by rw [hcx.block _ (Array.getElem?_eq_some_iff.1 hb0).1]; exact hb0
  have hEx := hEW.trans hcx
  rw [V.ba_append] at e11
  simp only [e11]
  clear hbk hEW hb0 c0 c1 c2 c3 c4 c5 hcx hwk hwc e11 hno
  go_wp2_with fail
  refine (strk_any _ _ _ _ hbk1 (by simp only [ba_size, List.length_append, List.length_nil]; omega)).mono ?_; rintro e w2 ⟨rfl, hbk2, hkp⟩
  have hb2 := hkp.block hb1 (by decide) (by omega)
  have hE2 : Kp (w.heap.size + 1) wx w2 := hkp
  have hB : Below w.heap.size w w2 := Below.trans hEx (hkp.below.mono (Nat.le_succ _))
  clear hbk1 hb1 hkp hE2 hEx
  have l5 := stamp_len n s
  have l1z := V.num_len64 (n := 1) (by omega)
  have l0z := V.num_len64 (n := 0) (by omega)
  have hno2 : ¬ 9223372036854775807 < (V.num 1).length + (V.stamp n s).length := by omega
  have HN2 := Lib.hid hno2
  clear hno2
  have hb3 : (w2.alloc (.cells #[.int .i64 0, .int .i64 0] 26)).heap[w.heap.size]? = _ := ((extA w2 (.cells #[.int .i64 0, .int .i64 0] 26)).block _ (Array.getElem?_eq_some_iff.1 hb2).1).trans hb2
  have hbk3 := hbk2.ext (extA w2 (.cells #[.int .i64 0, .int .i64 0] 26))
  have H2 := six_of hb3
  obtain ⟨c0, c1, c2, c3, c4, c5⟩ := H2
  go_upto_region 4 with fail
  go_cut [32] (fun u wy => u = .bool (L.noStamp n s) ∧ (w2.alloc (.cells #[.int .i64 0, .int .i64 0] 26)) = wy)
  case first =>
    go_wp2
    all_goals (try subst_vars)
    all_goals go_meet
    all_goals exact ⟨by simp_all [L.noStamp], rfl⟩
  case rest =>
    obtain ⟨rfl, rfl⟩ := hcut
    go_upto_if 32 with (fail)
    go_cut [] (fun wy => IsBk (w.heap.size + 1) (L.headBytes ⟨k, c, key, n, s, seen⟩) wy ∧ Kp (w.heap.size + 1) (w2.alloc (.cells #[.int .i64 0, .int .i64 0] 26)) wy)
    case first =>
      have hfin : (V.num k ++ (V.num c ++ V.text key)) ++ L.stampOpt n s = L.headBytes ⟨k, c, key, n, s, seen⟩ := by simp [L.headBytes]
      cases hz : L.noStamp n s
      · have hso : L.stampOpt n s = V.num 1 ++ V.stamp n s := by simp [L.stampOpt, hz]
        rw [hso] at hfin
        have HF := Lib.hid hfin
        clear hfin hso
        have hno2 := HN2.out
        go_wp2_with fail
        refine Ev.wp_region_tail (Ev.Ext (w2.alloc (.cells #[.int .i64 0, .int .i64 0] 26))) (Ev.Ext) 5 (by kernel_rfl) (by kernel_rfl) Ev.Ext.refl (fun _ _ h k => k.trans h) (Ev.Ext.refl _).tick ?_
        simp only [List.take, List.drop]
        repeat
          first
          | (apply Ev.walk_eq
             · intro u wx hcx hfx
               have hk4 := six_ext hcx ⟨c0, c1, c2, c3, c4, c5⟩
               try simp at hfx
               try go_simp
               first
                 | rfl
                 | (intro K hK
                    try go_simp
                    first
                      | (refine hK _ ?_; first | exact Ev.Ext.refl _ | assumption)
                      | (first | (go_at_call 26; refine (number_z _ 1 (by omega) rfl _).mono ?_; rintro e wy ⟨rfl, hby⟩; exact ⟨_, rfl, hK _ hby⟩) | (go_at_call 51; refine (stbytes_any n s _).mono ?_; rintro e wy ⟨rfl, hby⟩; exact ⟨_, rfl, hK _ hby⟩))))
          | (fail)
          try simp only [List.nil_append]
          try simp only [List.cons_append]
        intro u wx hcx hfx
        simp at hfx
        simp only [Ev.putU, Act.put, List.setIfInBounds_toArray, List.set_cons_zero, List.set_cons_succ]
        obtain ⟨_, _, _, _, e4⟩ := hfx
        rw [V.ba_append] at e4
        simp only [e4]
        clear hno2 e4
        go_wp2_with fail
        refine (strk_any _ _ _ _ (hbk3.ext hcx) (by simp only [ba_size, List.length_append, List.length_nil]; omega)).mono ?_; rintro e w4 ⟨rfl, hbk4, hkp4⟩
        go_wp2
        go_meet
        exact ⟨by rw [← HF.out]; simpa using hbk4, (Kp.of_ext hcx hbk3.lt).trans hkp4⟩
      · have hso : L.stampOpt n s = V.num 0 := by simp [L.stampOpt, hz]
        rw [hso] at hfin
        have HF := Lib.hid hfin
        clear hfin hso
        go_wp2_with fail
        refine (number_z _ 0 (by omega) rfl _).mono ?_; rintro e w3 ⟨rfl, hb4⟩
        go_wp2_with fail
        refine (strk_any _ _ _ _ (hbk3.ext hb4) (by simp only [ba_size, List.length_append, List.length_nil]; omega)).mono ?_; rintro e w4 ⟨rfl, hbk4, hkp4⟩
        go_wp2
        go_meet
        exact ⟨by rw [← HF.out]; simpa using hbk4, (Kp.of_ext hb4 hbk3.lt).trans hkp4⟩
    case rest =>
      obtain ⟨hbk4, hkp4⟩ := hcut
      have hz0 : (w2.alloc (.cells #[.int .i64 0, .int .i64 0] 26)).heap[w2.heap.size]? = _ := heap_alloc_new _ _
      have hz1 := hkp4.block hz0 (by decide) (by have := hbk2.lt; omega)
      have hb5 := hkp4.block hb3 (by decide) (by omega)
      have hB5 : Below w.heap.size w wc := Below.trans (Ev.Ext.trans hB (extA _ _)) (hkp4.below.mono (Nat.le_succ _))
      clear hz0 hkp4 hbk3 hb3 c0 c1 c2 c3 c4 c5 hb2 hB
      have H2 := six_of hb5
      obtain ⟨c0, c1, c2, c3, c4, c5⟩ := H2
      have H3 := two_of hz1
      obtain ⟨z0, z1⟩ := H3
      go_upto_region 7 with fail
      refine Ev2.wp_region_tail2 (Ev.Ext wc) (Ev.Ext) [5, 6] 7 (by kernel_rfl) (by kernel_rfl) Ev.Ext.refl (fun _ _ h k => k.trans h) (Ev.Ext.refl _).tick ?_
      simp only [List.take, List.drop]
      repeat
        first
        | (first | (refine Ev2.walk2_rel (OfMap wc.heap.size ahead) OfMap.stable (by rfl) ?_ ?_; (intro u wx hcx hfx; (try simp at hfx); go_simp; intro K hK; go_at_call 52; ((with_reducible refine (of_any (.slice a' ahead.length cap') ahead Kb _ (ha.ext (Ev.Ext.trans hB5 hcx)) (by omega)).mono ?_); rintro e wy ⟨b, rfl, hb, hm, hby⟩; exact ⟨_, rfl, hK _ _ hby ⟨b, rfl, Nat.le_trans hcx.size hb, hm⟩⟩))) | (refine Ev2.walk2_rel (OfMap wc.heap.size seen) OfMap.stable (by rfl) ?_ ?_; (intro u wx hcx hfx; (try simp at hfx); go_simp; intro K hK; go_at_call 52; ((with_reducible refine (of_any (.slice a seen.length cap) seen Kb _ (hs.ext (Ev.Ext.trans hB5 hcx)) (by omega)).mono ?_); rintro e wy ⟨b, rfl, hb, hm, hby⟩; exact ⟨_, rfl, hK _ _ hby ⟨b, rfl, Nat.le_trans hcx.size hb, hm⟩⟩))) | (refine Ev2.walk2_new (Ev2.NewBox wc.heap.size #[.map none] 85) Ev2.NewBox.stable Ev2.NewBox.old (by rfl) ?_ ?_; (intro u wx hcx hfx; (try simp at hfx); go_simp; intro K hK; refine hK _ _ ?_ ⟨_, rfl, hcx.size, heap_alloc_new _ _⟩ (Ev2.fresh_ptr _); exact (Below.refl _ _).alloc (Nat.le_refl _) _)))
        | (apply Ev2.walk2_eq
           · rfl
           · intro u wx hcx hfx
             have hk4 := six_ext hcx ⟨c0, c1, c2, c3, c4, c5⟩
             try simp at hfx
             try go_simp
             first
               | rfl
               | (intro K hK
                  try go_simp
                  first
                    | (refine hK _ ?_; first | exact Ev.Ext.refl _ | assumption)
                    | (fail)))
        | (fail)
        try simp only [List.nil_append]
        try simp only [List.cons_append]
      intro u wx hcx hfx hap
      simp at hfx
      simp only [Ev.putU, Act.put, List.setIfInBounds_toArray, List.set_cons_zero, List.set_cons_succ]
      obtain ⟨_, ⟨m1, e1, hm1b, hm1⟩, _, _, ⟨m2, e2, hm2b, hm2⟩, ⟨x7, e7, hx7, hh7⟩, ⟨x8, e8, hx8, hh8⟩⟩ := hfx
      have hne : x7 ≠ x8 := by
        intro h
        have := hap 5 (by simp) 6 (by simp) (by decide)
        rw [e7, e8] at this
        exact this x7 rfl (by simp [Ev2.blk, h])
      have hne' : x8 ≠ x7 := Ne.symm hne
      have Q7 := one_of hh7
      have Q8 := one_of hh8
      obtain ⟨q7, r7⟩ := Q7
      obtain ⟨q8, r8⟩ := Q8
      obtain ⟨W3, hW3⟩ : ∃ W, W = (wx.setCell ⟨x7, 0, none⟩ (.map (some m1))).setCell ⟨x8, 0, none⟩ (.map (some m2)) := ⟨_, rfl⟩
      have hE3 : Ev.Ext wc W3 := by rw [hW3]; exact ext_set (ext_set hcx hx7 _) hx8 _
      have g7 : W3.heap[x7]? = some (.cells #[.map (some m1)] 85) := by rw [hW3, setCell_other hne]; exact setCell_at hh7
      have g8 : W3.heap[x8]? = some (.cells #[.map (some m2)] 85) := by rw [hW3]; exact setCell_at (by rw [setCell_other hne']; exact hh8)
      have s1 : SMap W3 m1 ahead.length (L.ofM ahead) := smap_at hm1 (by rw [hW3, setCell_other (smap_ne hm1 hh8), setCell_other (smap_ne hm1 hh7)])
      have s2 : SMap W3 m2 seen.length (L.ofM seen) := smap_at hm2 (by rw [hW3, setCell_other (smap_ne hm2 hh8), setCell_other (smap_ne hm2 hh7)])
      have hz2 : W3.heap[w2.heap.size]? = _ := (hE3.block _ (Array.getElem?_eq_some_iff.1 hz1).1).trans hz1
      have hzl : w2.heap.size < W3.heap.size := (Array.getElem?_eq_some_iff.1 hz2).1
      have l7 : x7 < W3.heap.size := (Array.getElem?_eq_some_iff.1 g7).1
      have l8 : x8 < W3.heap.size := (Array.getElem?_eq_some_iff.1 g8).1
      have hbk5 := hbk4.ext hE3
      have hEs : Ev.Ext w W3 := Ev.Ext.trans hB5 hE3
      have c5' := cell_later hE3 c5
      have HNE := Lib.hid hne
      have HNE' := Lib.hid hne'
      have HW := Lib.hid hW3
      clear hh7 hh8 hm1 hm2 hap hcx hW3 z0 z1 c0 c1 c2 c3 c4 hb5 hz1 hB5
      simp only [e1, e2, e7, e8]
      go_upto_region 8 with fail
      rw [← HW.out]
      clear q7 q8 r7 r8 HW c5 e1 e2 e7 e8
      have hF1 : ∀ (args : Array Value) (wy : World), (callFunc 55 args).run Try.prog wy = .ok (.enter 55 args) wy := fun _ _ => by kernel_rfl
      have hF2 : ∀ (args : Array Value) (wy : World), (callFunc 56 args).run Try.prog wy = .ok (.enter 56 args) wy := fun _ _ => by kernel_rfl
      have HF1 := Lib.hid hF1
      have HF2 := Lib.hid hF2
      clear hF1 hF2 hne hne'
      go_wp2_with fail
      refine (cloneD_any _ seen Kb _ (hs.ext hEs) (by omega)).mono ?_; rintro e w4 ⟨v1, rfl, hG1, hx4⟩
      go_wp2_with fail
      refine (delD_any Kb W3.heap.size v1 seen w4 hG1 (by omega) 55 #[.pointer (some ⟨x7, 0, none⟩)] HF1.out (L.hadB (L.ofM ahead)) ?_).mono ?_
      · intro x wy hx hby
        have k1 : w4.heap[x7]? = _ := (hx4.block _ l7).trans g7
        have k2 := (but_block hby hG1.base l7 (Nat.lt_of_lt_of_le l7 hx4.size)).trans k1
        have k3 := smap_at (smap_ext s1 hx4) (but_block hby hG1.base s1.lt (Nat.lt_of_lt_of_le s1.lt hx4.size))
        exact part1_any x (by have := hsk x hx; omega) x7 m1 _ _ wy (one_of k2).1 k3
      rintro e w5 ⟨v2, rfl, hbt5, hG2⟩
      have hE5 : Ev.Ext W3 w5 := grown_below hx4 hbt5 hx4.size hG1.base
      clear hbt5 hG1 hx4
      go_wp2_with fail
      refine (cloneD_any _ ahead Kb _ (ha.ext (Ev.Ext.trans hEs hE5)) (by omega)).mono ?_; rintro e w6 ⟨v3, rfl, hG3, hx6⟩
      go_wp2_with fail
      have hsz5 : W3.heap.size ≤ w5.heap.size := hE5.size
      refine (delD_any Kb w5.heap.size v3 ahead w6 hG3 (by omega) 56 #[.pointer (some ⟨x8, 0, none⟩), .pointer (some ⟨w2.heap.size, 0, none⟩)] HF2.out (L.hasB (L.ofM seen)) ?_).mono ?_
      · intro x wy hx hby
        have k1 : w6.heap[x8]? = _ := ((hE5.trans hx6).block _ l8).trans g8
        have k2 := (but_block hby hG3.base (by omega) (Nat.lt_of_lt_of_le l8 (hE5.trans hx6).size)).trans k1
        have k3 := smap_at (smap_ext s2 (hE5.trans hx6)) (but_block hby hG3.base (Nat.lt_of_lt_of_le s2.lt hsz5) (Nat.lt_of_lt_of_le s2.lt (hE5.trans hx6).size))
        have k4 : w6.heap[w2.heap.size]? = _ := ((hE5.trans hx6).block _ hzl).trans hz2
        have k5 := (but_block hby hG3.base (by omega) (Nat.lt_of_lt_of_le hzl (hE5.trans hx6).size)).trans k4
        exact part2_any x (by have := hak x hx; omega) x8 w2.heap.size m2 _ _ wy (one_of k2).1 (two_of k5).1 (two_of k5).2 k3
      rintro e w7 ⟨v4, rfl, hbt7, hG4⟩
      have hE7 : Ev.Ext w5 w7 := grown_below hx6 hbt7 hx6.size hG3.base
      have hG2' := hG2.ext hE7
      have hbk7 := hbk5.ext (hE5.trans hE7)
      have hE8 : Ev.Ext w w7 := Ev.Ext.trans hEs (hE5.trans hE7)
      have hmore : strike (L.hadB (L.ofM ahead)) seen = L.more ⟨k, c, key, n, s, seen⟩ ahead := rfl
      have hless : strike (L.hasB (L.ofM seen)) ahead = L.less ⟨k, c, key, n, s, seen⟩ ahead := rfl
      rw [hmore] at hG2'
      rw [hless] at hG4
      have hml : (L.more ⟨k, c, key, n, s, seen⟩ ahead).length ≤ 64 := Nat.le_trans (strike_le _ _) hsl
      have hll : (L.less ⟨k, c, key, n, s, seen⟩ ahead).length ≤ 64 := Nat.le_trans (strike_le _ _) hal
      have hmk : ∀ d ∈ L.more ⟨k, c, key, n, s, seen⟩ ahead, d.key.size ≤ 1000 := fun d hd => hsk d (List.mem_filter.1 hd).1
      have hlk : ∀ d ∈ L.less ⟨k, c, key, n, s, seen⟩ ahead, d.key.size ≤ 1000 := fun d hd => hak d (List.mem_filter.1 hd).1
      have hpt : L.headBytes ⟨k, c, key, n, s, seen⟩ ++ V.num (L.more ⟨k, c, key, n, s, seen⟩ ahead).length ++ (L.more ⟨k, c, key, n, s, seen⟩ ahead).flatMap L.depBytes ++ V.num (L.less ⟨k, c, key, n, s, seen⟩ ahead).length ++ ((L.less ⟨k, c, key, n, s, seen⟩ ahead).flatMap fun d => V.text d.key) = L.part ⟨k, c, key, n, s, seen⟩ ahead := rfl
      have hhl : (L.headBytes ⟨k, c, key, n, s, seen⟩).length ≤ 2000 := by
        have : (L.stampOpt n s).length ≤ 30 := by unfold L.stampOpt; split <;> (try simp) <;> omega
        simp only [L.headBytes, List.length_append, Int.toNat_natCast]; omega
      have hszb : w.heap.size + 1 < W3.heap.size := by have := hbk5.lt; omega
      clear hbt7 hG3 hx6 hG2 hE7 hmore hless hbk5 hbk4 hbk2 s1 s2 g7 g8 hz2 hzl l7 l8 c5' hE3 HF1 HF2 HNE HNE' hs ha
      generalize L.more ⟨k, c, key, n, s, seen⟩ ahead = mo at *
      generalize L.less ⟨k, c, key, n, s, seen⟩ ahead = le at *
      generalize L.headBytes ⟨k, c, key, n, s, seen⟩ = hd at *
      have HPT := Lib.hid hpt
      clear hpt
      have hG2S := hG2'.slice
      have hG4S := hG4.slice
      obtain ⟨a9, cap9, rfl⟩ := hG2S
      obtain ⟨a10, cap10, rfl⟩ := hG4S
      go_wp2_with fail
      have l6 := V.num_len64 (n := mo.length) (by omega)
      have l7 := V.num_len64 (n := le.length) (by omega)
      refine (number_z _ mo.length (by omega) rfl _).mono ?_; rintro e w8 ⟨rfl, hx8'⟩
      go_wp2_with fail
      refine (strk_any _ _ _ _ (hbk7.ext hx8') (by simp only [ba_size, List.length_append, List.length_nil]; omega)).mono ?_; rintro e w9 ⟨rfl, hbk9, hkp9⟩
      have hk9 : Kp (w.heap.size + 1) w7 w9 := (Kp.of_ext hx8' hbk7.lt).trans hkp9
      have hG2 := grow_kp hG2' hk9 hszb
      have hG4' := grow_kp hG4 hk9 (by omega)
      have hB9 : Below w.heap.size w w9 := Below.trans hE8 (hk9.below.mono (Nat.le_succ _))
      clear hbk7 hx8' hkp9 hk9 hG2' hG4 hE8 hE5 hEs
      go_wp2_with fail
      go_loopw [62] (fun i wr => ∃ (j : Nat), i = .int .i64 j ∧ j ≤ mo.length ∧ Kp (w.heap.size + 1) w9 wr ∧ IsBk (w.heap.size + 1) (hd ++ V.num mo.length ++ (mo.take j).flatMap L.depBytes) wr) (fun i _ => mo.length - (intOf i).toNat)
      case atStart => exact ⟨0, rfl, by omega, Kp.refl _ _, by simpa using hbk9⟩
      case round =>
        obtain ⟨j, rfl, hj, hkp, hbk⟩ := hrel
        by_cases h1 : j < mo.length
        · have hsl2 := (grow_kp hG2 hkp hszb).sl (by omega)
          obtain ⟨bb, o, rfl, _, ⟨hxs, _, _⟩, d0, d1, d2⟩ := (dep_cells hsl2).2 j mo[j] (by simp [h1])
          have hxk := hmk mo[j] (List.getElem_mem h1)
          have LD := Lib.hid (fun w' (he' : Ev.Ext (wr.alloc (.cells #[.string mo[j].key, .int .i64 mo[j].n, .int .i64 mo[j].s] 56)) w') => three_after he')
          have t1 := V.num_len64 (n := mo[j].key.size) (by omega)
          have t2 : (V.text mo[j].key).length ≤ 1010 := by simp [V.text]; omega
          have t3 := stamp_len mo[j].n mo[j].s
          have hno2 : ¬ 9223372036854775807 < (V.text mo[j].key).length + (V.stamp mo[j].n mo[j].s).length := by omega
          have e1 : (mo.take (j + 1)).flatMap L.depBytes = (mo.take j).flatMap L.depBytes ++ (V.text mo[j].key ++ V.stamp mo[j].n mo[j].s) := by rw [List.take_succ_eq_append_getElem h1, List.flatMap_append]; simp [L.depBytes]
          have hfl := dep_flat (mo.take j) (fun d hd => hmk d (List.mem_of_mem_take hd))
          rw [List.length_take] at hfl
          have HE := Lib.hid e1
          clear e1 hsl2
          go_wp2_with fail
          refine Ev.wp_region_tail (Ev.Ext (wr.alloc (.cells #[.string mo[j].key, .int .i64 mo[j].n, .int .i64 mo[j].s] 56))) (Ev.Ext) 7 (by kernel_rfl) (by kernel_rfl) Ev.Ext.refl (fun _ _ h k => k.trans h) (Ev.Ext.refl _).tick ?_
          simp only [List.take, List.drop]
          repeat
            first
            | (apply Ev.walk_eq
               · intro u wx hcx hfx
                 have hk4 := LD.out wx hcx
                 try simp at hfx
                 try go_simp
                 first
                   | rfl
                   | (intro K hK
                      try go_simp
                      first
                        | (refine hK _ ?_; first | exact Ev.Ext.refl _ | assumption)
                        | (first | (go_at_call 50; refine (text_any _ (by omega) _).mono ?_; rintro e wy ⟨rfl, hby⟩; exact ⟨_, rfl, hK _ hby⟩) | (go_at_call 51; refine (stbytes_any _ _ _).mono ?_; rintro e wy ⟨rfl, hby⟩; exact ⟨_, rfl, hK _ hby⟩))))
            | (fail)
            try simp only [List.nil_append]
            try simp only [List.cons_append]
          intro u wx hcx hfx
          simp at hfx
          simp only [Ev.putU, Act.put, List.setIfInBounds_toArray, List.set_cons_zero, List.set_cons_succ]
          obtain ⟨_, _, _, _, _, _, e6⟩ := hfx
          rw [V.ba_append] at e6
          simp only [e6]
          clear hno2 e6
          have hx9 : Ev.Ext wr wx := Ev.Ext.trans (extA _ _) hcx
          go_wp2_with fail
          refine (strk_any _ _ _ _ (hbk.ext hx9) (by simp only [ba_size, List.length_append, List.length_nil]; omega)).mono ?_; rintro e w10 ⟨rfl, hbk10, hkp10⟩
          have hkq : Kp (w.heap.size + 1) w9 w10 := (hkp.trans (Kp.of_ext hx9 hbk.lt)).trans hkp10
          clear hkp10 hcx hx9
          go_wp2
          go_roundw
          case rel => exact ⟨j + 1, by go_num, by omega, hkq, by rw [HE.out]; simpa using hbk10⟩
          case measure => simp [intOf]; omega
        · obtain rfl : j = mo.length := by omega
          rw [List.take_length] at hbk
          have hfl := (dep_flat mo hmk).1
          have hG4w := grow_kp hG4' hkp (by omega)
          have hBw : Below w.heap.size w wr := Below.trans hB9 (hkp.below.mono (Nat.le_succ _))
          clear hG2 hG4' hB9 hkp hbk9
          go_wp2_with fail
          refine (number_z _ le.length (by omega) rfl _).mono ?_; rintro e w12 ⟨rfl, hx12⟩
          go_wp2_with fail
          refine (strk_any _ _ _ _ (hbk.ext hx12) (by simp only [ba_size, List.length_append, List.length_nil]; omega)).mono ?_; rintro e w13 ⟨rfl, hbk13, hkp13⟩
          have hk13 : Kp (w.heap.size + 1) wr w13 := (Kp.of_ext hx12 hbk.lt).trans hkp13
          have hG5 := grow_kp hG4w hk13 (by omega)
          have hB13 : Below w.heap.size w w13 := Below.trans hBw (hk13.below.mono (Nat.le_succ _))
          clear hbk hx12 hkp13 hk13 hG4w hBw
          go_wp2_with fail
          go_loopw [82] (fun i wq => ∃ (j : Nat), i = .int .i64 j ∧ j ≤ le.length ∧ Kp (w.heap.size + 1) w13 wq ∧ IsBk (w.heap.size + 1) (hd ++ V.num mo.length ++ mo.flatMap L.depBytes ++ V.num le.length ++ (le.take j).flatMap fun d => V.text d.key) wq) (fun i _ => le.length - (intOf i).toNat)
          case atStart => exact ⟨0, rfl, by omega, Kp.refl _ _, by simpa using hbk13⟩
          case round =>
            obtain ⟨j, rfl, hj, hkp, hbk⟩ := hrel
            by_cases h1 : j < le.length
            · have hsl2 := (grow_kp hG5 hkp (by omega)).sl (by omega)
              obtain ⟨bb, o, rfl, _, ⟨hxs, _, _⟩, d0, d1, d2⟩ := (dep_cells hsl2).2 j le[j] (by simp [h1])
              have hxk := hlk le[j] (List.getElem_mem h1)
              have t1 := V.num_len64 (n := le[j].key.size) (by omega)
              have t2 : (V.text le[j].key).length ≤ 1010 := by simp [V.text]; omega
              have e1 : ((le.take (j + 1)).flatMap fun d => V.text d.key) = ((le.take j).flatMap fun d => V.text d.key) ++ V.text le[j].key := by rw [List.take_succ_eq_append_getElem h1, List.flatMap_append]; simp
              have hfl2 := (dep_flat (le.take j) (fun d hd => hlk d (List.mem_of_mem_take hd))).2
              rw [List.length_take] at hfl2
              have HE := Lib.hid e1
              clear e1 hsl2
              go_wp2_with fail
              refine (text_any _ (by omega) _).mono ?_; rintro e w14 ⟨rfl, hx14⟩
              have hx9 := Ev.Ext.trans (extA _ _) hx14
              go_wp2_with fail
              refine (strk_any _ _ _ _ (hbk.ext hx9) (by simp only [ba_size, List.length_append, List.length_nil]; omega)).mono ?_; rintro e w15 ⟨rfl, hbk15, hkp15⟩
              have hkq : Kp (w.heap.size + 1) w13 w15 := (hkp.trans (Kp.of_ext hx9 hbk.lt)).trans hkp15
              clear hkp15 hx14 hx9
              go_wp2
              go_roundw
              case rel => exact ⟨j + 1, by go_num, by omega, hkq, by rw [HE.out]; simpa using hbk15⟩
              case measure => simp [intOf]; omega
            · obtain rfl : j = le.length := by omega
              rw [List.take_length, HPT.out] at hbk
              go_wp2_with fail
              refine (bstr_any _ _ _ hbk).mono ?_; rintro e w16 ⟨rfl, _, hkp16⟩
              go_wp2
              go_ret
              exact ⟨rfl, Below.trans hB13 ((hkp.trans hkp16).below.mono (Nat.le_succ _))⟩
end Go.Proofs.Ytbdejgbjelfbeaa
