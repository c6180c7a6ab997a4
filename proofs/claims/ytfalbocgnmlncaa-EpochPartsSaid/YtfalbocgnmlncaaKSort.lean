/- keys.Bounds. -/
import Derived.Test.YtfalbocgnmlncaaKDel
set_option linter.unusedSimpArgs false
set_option linter.unusedVariables false
namespace Go.Proofs.Ytfalbocgnmlncaa
open Go.RowKit R Go.Sort
def ba (l : List UInt8) : ByteArray := ⟨l.toArray⟩
theorem ba_data (s : ByteArray) : ba s.data.toList = s := by cases s; simp [ba]
theorem data_ba (l : List UInt8) : (ba l).data.toList = l := by simp [ba]
/-- A row that is written anew, at its head. -/
theorem putRow_heap {w : World} {g n : Nat} {e : TypeId} {cur tail : List Value} {d : Array (List UInt8)} {os : Array Obj} (h : w.heap[g]? = some (.cells (cur ++ tail).toArray e)) (hd : d.size = cur.length) :
    (grow (putRow encStr (Go.Sort.ahead w n) g 0 d) os).heap[g]? = some (.cells (d.toList.map encStr ++ tail).toArray e) := by
  have hlt : g < w.heap.size := (Array.getElem?_eq_some_iff.1 h).1
  have h1 : (putRow encStr (Go.Sort.ahead w n) g 0 d).heap[g]? = some (.cells (d.toList.map encStr ++ tail).toArray e) := by
    unfold putRow mapBlock Go.Sort.ahead
    simp only [Array.getElem?_modify, if_true, h, Option.map_some, onCells, putCells]
    congr 2
    apply Array.ext
    · simp; omega
    · intro i h1 h2
      simp only [Array.getElem_mapIdx, Nat.zero_le, true_and, Nat.zero_add, Nat.sub_zero]
      split
      · rename_i hi
        rw [getElem!_pos d i hi]
        simp [List.getElem_append_left, hi]
      · rename_i hi
        simp only [List.getElem_toArray]
        rw [List.getElem_append_right (by omega), List.getElem_append_right (by simp; omega)]
        simp [hd]
  unfold grow
  have hsz : (putRow encStr (Go.Sort.ahead w n) g 0 d).heap.size = w.heap.size := by simp [putRow, mapBlock, Go.Sort.ahead]
  rw [Array.getElem?_append_left (by rw [hsz]; exact hlt)]
  exact h1
theorem putRow_but {w : World} {g n : Nat} {d : Array (List UInt8)} {os : Array Obj} {v : Value} (hv : v.ownBlock = some g) : But w (grow (putRow encStr (Go.Sort.ahead w n) g 0 d) os) v := by
  refine ⟨rfl, rfl, rfl, by simp [grow, putRow, mapBlock, Go.Sort.ahead], fun k hk hne => ?_⟩
  have hkg : ¬ g = k := fun e => hne (by rw [hv, e])
  simp only [grow]
  rw [Array.getElem?_append_left (by simp [putRow, mapBlock, Go.Sort.ahead]; exact hk)]
  simp [putRow, mapBlock, Go.Sort.ahead, Array.getElem?_modify, hkg]
theorem grow_nil (w : World) : grow w #[] = w := by simp [grow]
theorem holds_of {w : World} {g : Nat} {e : TypeId} {ss : List ByteArray} {tail : List Value} (h : w.heap[g]? = some (.cells (ss.map Value.string ++ tail).toArray e)) : Holds encStr w g 0 (ss.map (·.data.toList)).toArray := by
  intro j hj
  simp at hj
  refine ⟨?_, by simp [World.frozen?, h]⟩
  rw [getElem!_pos _ j (by simpa using hj)]
  simp [World.cell?, h, List.getElem?_append_left, hj, encStr]
def sortF (l : List ByteArray) : List ByteArray := ((l.map (·.data.toList)).mergeSort fun x y => decide (x ≤ y)).map ba
def compF (l : List ByteArray) : List ByteArray := (Go.Lib.compact (l.map (·.data.toList))).map ba
theorem map_enc (l : List (List UInt8)) : l.map encStr = (l.map ba).map Value.string := by rw [List.map_map]; rfl
theorem size_ba {l : List ByteArray} (h : ∀ s ∈ l, s.size ≤ 9223372036854775807) : ∀ x ∈ l.map (·.data.toList), x.length ≤ 9223372036854775807 := fun x hx => by
  obtain ⟨s, hs, rfl⟩ := List.mem_map.1 hx
  have := h s hs
  simpa using this
theorem sort_any (B : Nat) (v : Value) (l : List ByteArray) (hlm : l.length ≤ 1000000) (w : World) (h : SOwn B w v l) :
    Calls Try.prog 47 #[v] w fun e w' => e = .returned (.tuple #[]) ∧ But w w' v ∧ SOwn B w' v (sortF l) := by
  rcases h with ⟨rfl, rfl⟩ | ⟨g, cap, tail, rfl, hB, hg, hc, hm, hs⟩
  · refine (Try.slices_Sort_string_none none 0 w).mono ?_
    rintro e w' ⟨rfl, rfl⟩
    exact ⟨rfl, But.refl _ _, .inl ⟨rfl, by simp [sortF]⟩⟩
  · have hlt := (Array.getElem?_eq_some_iff.1 hg).1
    have hl : (l.map (·.data.toList)).length = l.length := by simp
    have hc2 := Try.slices_Sort_string g 0 cap (l.map (·.data.toList)) w (holds_of hg) hlt (by rw [hl]; omega)
    rw [hl] at hc2
    refine hc2.mono ?_
    rintro e w' ⟨rfl, n, os, rfl⟩
    refine ⟨rfl, putRow_but rfl, .inr ⟨g, cap, tail, by simp [sortF], hB, ?_, by simp [sortF]; omega, hm, fun s hs' => ?_⟩⟩
    · have := putRow_heap (n := n) (os := os) (d := ((l.map (·.data.toList)).mergeSort fun x y => decide (x ≤ y)).toArray) hg (by simp)
      rw [this, map_enc]
      rfl
    · obtain ⟨x, hx, rfl⟩ := List.mem_map.1 hs'
      rw [List.mem_mergeSort] at hx
      have := size_ba hs x hx
      simpa [ba, ByteArray.size] using this
theorem compact_le (zs : List (List UInt8)) : (Go.Lib.compact zs).length ≤ zs.length ∧ ∀ x ∈ Go.Lib.compact zs, x ∈ zs := by
  unfold Go.Lib.compact Go.Lib.compactUpTo
  constructor
  · rw [List.length_map]
    exact Nat.le_trans (List.length_filter_le _ _) (by simp)
  · intro x hx
    obtain ⟨j, hj, rfl⟩ := List.mem_map.1 hx
    have hj2 : j < zs.length := List.mem_range.1 (List.mem_filter.1 hj).1
    rw [getElem!_pos _ j (by simpa using hj2)]
    simp
theorem comp_any (B : Nat) (v : Value) (l : List ByteArray) (w : World) (h : SOwn B w v l) :
    Calls Try.prog 48 #[v] w fun e w' => ∃ v', e = .returned v' ∧ But w w' v ∧ SOwn B w' v' (compF l) := by
  rcases h with ⟨rfl, rfl⟩ | ⟨g, cap, tail, rfl, hB, hg, hc, hm, hs⟩
  · refine (Try.slices_Compact_string_empty none 0 w).mono ?_
    rintro e w' ⟨rfl, rfl⟩
    exact ⟨_, rfl, But.refl _ _, .inl ⟨rfl, by simp [compF, Go.Lib.compact, Go.Lib.compactUpTo]⟩⟩
  · have hl : (l.map (·.data.toList)).length = l.length := by simp
    have hc2 := Try.slices_Compact_string g 0 cap (l.map (·.data.toList)) w (holds_of hg) (by rw [hl]; unfold maxLen at hm; omega) (by rw [hl]; omega)
    rw [hl] at hc2
    refine hc2.mono ?_
    rintro e w' ⟨rfl, q, rfl⟩
    have hle := compact_le (l.map (·.data.toList))
    have hle1 := hle.1
    rw [hl] at hle1
    rw [← grow_nil (putRow _ _ _ _ _)]
    refine ⟨_, rfl, putRow_but rfl, .inr ⟨g, cap, (List.replicate (l.length - (Go.Lib.compact (l.map fun (x : ByteArray) => x.data.toList)).length) ([] : List UInt8)).map encStr ++ tail, by simp [compF], hB, ?_, by simp [compF]; omega, hm, fun s hs' => ?_⟩⟩
    · have := putRow_heap (n := q) (os := #[]) (d := (Go.Lib.compact (l.map fun (x : ByteArray) => x.data.toList) ++ List.replicate (l.length - (Go.Lib.compact (l.map fun (x : ByteArray) => x.data.toList)).length) []).toArray) hg (by simp; omega)
      rw [this]
      simp only [List.map_append, List.append_assoc, map_enc]
      rfl
    · obtain ⟨x, hx, rfl⟩ := List.mem_map.1 hs'
      have := size_ba hs x (hle.2 x hx)
      simpa [ba, ByteArray.size] using this
def flatF (l : List Rng) : List ByteArray := l.flatMap fun r => [r.f, r.t]
def boundsF (l : List Rng) : List ByteArray := compF (sortF (left (fun s => s.toList.isEmpty) (flatF l)))
theorem isempty_any (s : ByteArray) (w : World) : Calls Try.prog 46 #[.string s] w fun e w' => e = .returned (.bool s.toList.isEmpty) ∧ w = w' := by
  go_enter Try.func46, Try.ntmps46
  go_wp2
  go_ret
  exact ⟨rfl, rfl⟩
theorem bflat_len (l : List Rng) : (flatF l).length = 2 * l.length := by
  unfold flatF
  induction l with
  | nil => rfl
  | cons r t ih => simp only [List.flatMap_cons, List.length_append, List.length_cons, List.length_nil]; omega
theorem SOwn.lt {B : Nat} {w : World} {v : Value} {ss : List ByteArray} (h : SOwn B w v ss) : ∀ b, v.ownBlock = some b → B ≤ b := by
  rcases h with ⟨rfl, _⟩ | ⟨g, cap, tail, rfl, hB, _⟩
  · intro b hb; cases hb
  · intro b hb; cases hb; exact hB
theorem heap_alloc_new2 (w : World) (a b : Obj) : ((w.alloc a).alloc b).heap[w.heap.size + 1]? = some b := by have := heap_alloc_new (w.alloc a) b; simpa using this
set_option maxHeartbeats 2000000 in
theorem bounds_own (v : Value) (l : List Rng) (hl : l.length ≤ 100) (Kb : Blocks) (w : World) (h : Sl Kb w v l) :
    Calls Try.prog 32 #[v] w fun e w' => ∃ v', e = .returned v' ∧ Ev.Ext w w' ∧ SOwn w.heap.size w' v' (boundsF l) := by
  obtain ⟨a, cap, rfl⟩ := h.form
  have hlen := h.len_le
  go_enter Try.func32, Try.ntmps32
  go_wp2_with fail
  go_loopw [3, 8] (fun o i wr => ∃ (k : Nat), i = .int .i64 k ∧ k ≤ l.length ∧ Ev.Ext w wr ∧ Grow 9 Kb w.heap.size wr o (flatF (l.take k))) (fun _ i _ => l.length - (intOf i).toNat)
  case atStart => exact ⟨0, rfl, by omega, Ev.Ext.refl _, Grow.nil _ _ _ _⟩
  case round =>
    obtain ⟨k, rfl, hk, hext, hg⟩ := hrel
    have hfl := bflat_len (l.take k)
    rw [List.length_take] at hfl
    by_cases h1 : k < l.length
    · obtain ⟨b, o, rfl, hKb, hs0, hs1, c0, c1⟩ := (rng_cells h).2 k l[k] (by simp [h1])
      have c0 := cell_later hext c0
      have c1 := cell_later hext c1
      go_wp2_with (at_builtin; refine R.wpList_append rfl _ _ 59 rfl str_elem _ _ rfl (hg.ext ((ext_alloc _ _).trans (ext_alloc _ _))) ⟨_, 0, none⟩ 2 [l[k].f, l[k].t] rfl [[.string l[k].f], [.string l[k].t]] (.cons ⟨rfl, hs0⟩ (.cons ⟨rfl, hs1⟩ .nil)) (row_cells (heap_alloc_new2 _ _ _)) (by simp [maxLen]; omega) (by simp; omega) (Nat.le_trans hext.size ((ext_alloc _ _).trans (ext_alloc _ _)).size) ?_; intro v1 w1 hg1 hgb1)
      have hext2 : Ev.Ext w w1 := grown_below (hext.trans ((ext_alloc _ _).trans (ext_alloc _ _))) hgb1 (Nat.le_trans hext.size ((ext_alloc _ _).trans (ext_alloc _ _)).size) hg.base
      exact ⟨⟨k + 1, by go_num, by omega, hext2, by
        have e : flatF (l.take (k + 1)) = flatF (l.take k) ++ [l[k].f, l[k].t] := by unfold flatF; rw [List.take_succ_eq_append_getElem h1, List.flatMap_append]; rfl
        rw [e]; exact hg1⟩, by simp [intOf]; omega⟩
    · obtain rfl : k = l.length := by omega
      have e := List.take_length (l := l)
      rw [e] at hg
      clear e
      have h0 := sown_of hg
      have hbase := hg.base
      have hll : (left (fun s => s.toList.isEmpty) (flatF l)).length ≤ 1000000 := by
        have h3 := List.length_filter_le (fun s : ByteArray => !s.toList.isEmpty) (flatF l)
        have h4 := bflat_len l
        exact Nat.le_trans h3 (by omega)
      clear hg hfl
      go_wp2_with fail
      refine (delS_any w.heap.size _ _ _ h0 46 #[] (fun _ _ => by kernel_rfl) (fun s => s.toList.isEmpty) (fun x wy _ _ => isempty_any x wy)).mono ?_
      rintro e w1 ⟨v1, rfl, hb1, h1'⟩
      have e1 : Ev.Ext w w1 := grown_below hext hb1 hext.size hbase
      clear hb1 hext h0
      go_wp2_with fail
      refine (sort_any w.heap.size _ _ hll _ h1').mono ?_
      rintro e w2 ⟨rfl, hb2, h2'⟩
      have e2 : Ev.Ext w w2 := grown_below e1 hb2 e1.size h1'.lt
      clear hb2 e1
      go_wp2_with fail
      refine (comp_any w.heap.size _ _ _ h2').mono ?_
      rintro e w3 ⟨v3, rfl, hb3, h3'⟩
      have e3 : Ev.Ext w w3 := grown_below e2 hb3 e2.size h2'.lt
      clear hb3 e2
      go_wp2
      go_ret
      exact ⟨_, rfl, e3, h3'⟩
theorem bounds_any (v : Value) (l : List Rng) (hl : l.length ≤ 100) (Kb : Blocks) (w : World) (h : Sl Kb w v l) :
    Calls Try.prog 32 #[v] w fun e w' => ∃ v', e = .returned v' ∧ Ev.Ext w w' ∧ Sl (KN Kb w.heap.size) w' v' (boundsF l) :=
  (bounds_own v l hl Kb w h).mono fun e w' ⟨v', h1, h2, h3⟩ => ⟨v', h1, h2, h3.sl⟩
end Go.Proofs.Ytfalbocgnmlncaa
