/- A slice of texts of the call's own: DeleteFunc, Sort, Compact. -/
import Derived.Test.YtfalbocgnmlncaaKAdd
import Derived.Test.YtfalbocgnmlncaaShelf
set_option linter.unusedSimpArgs false
set_option linter.unusedVariables false
namespace Go.Proofs.Ytfalbocgnmlncaa
open Go.RowKit R
/-- A slice of texts of the call's own, its row and what is behind. -/
def SOwn (B : Nat) (w : World) (v : Value) (ss : List ByteArray) : Prop :=
  (v = .slice none 0 0 ∧ ss = []) ∨ ∃ g cap tail, v = .slice (some ⟨g, 0, none⟩) ss.length cap ∧ B ≤ g ∧ w.heap[g]? = some (.cells (ss.map Value.string ++ tail).toArray 9) ∧ ss.length + tail.length = cap ∧ cap ≤ maxLen ∧ ∀ s ∈ ss, s.size ≤ 9223372036854775807
theorem all2_str {K : Blocks} {w : World} {rows : List (List Value)} {ss : List ByteArray} (h : All2 (GoT.rep K w) rows ss) : rows.flatten = ss.map Value.string ∧ ∀ s ∈ ss, s.size ≤ 9223372036854775807 := by
  induction h with
  | nil => simp
  | cons r _ ih =>
    obtain ⟨rfl, h1⟩ := r
    refine ⟨by simp [ih.1], fun s hs => ?_⟩
    rcases List.mem_cons.1 hs with rfl | hs
    · exact h1
    · exact ih.2 s hs
theorem sown_of {Kb : Blocks} {B : Nat} {w : World} {v : Value} {ss : List ByteArray} (h : Grow 9 Kb B w v ss) : SOwn B w v ss := by
  obtain ⟨rows, hown, hall⟩ := h.ex
  obtain ⟨hf, hs⟩ := all2_str hall
  rcases hown.2 with ⟨rfl, h0⟩ | ⟨g, cap, cur, rfl, hbg, hg, hnc, hcm, hcs, htake⟩
  · exact .inl ⟨rfl, List.eq_nil_of_length_eq_zero h0⟩
  · have e1 : GoT.n ByteArray = 1 := rfl
    rw [e1, Nat.mul_one] at htake hcs
    refine .inr ⟨g, cap, cur.toList.drop ss.length, rfl, hbg, ?_, by simp; omega, hcm, hs⟩
    rw [hg, ← hf, ← htake, List.take_append_drop]
theorem SOwn.sl {Kb : Blocks} {B : Nat} {w : World} {v : Value} {ss : List ByteArray} (h : SOwn B w v ss) : Sl (KN Kb B) w v ss := by
  rcases h with ⟨rfl, rfl⟩ | ⟨g, cap, tail, rfl, hB, hg, hc, hm, hs⟩
  · exact Sl.nil _ _
  · refine ⟨_, cap, rfl, by unfold maxLen at hm; omega, fun hne => ⟨g, 0, rfl, .inr hB, fun i x hx => ⟨[.string x], ⟨rfl, hs x (List.mem_of_getElem? hx)⟩, fun j c hj => ?_⟩⟩⟩
    have : j = 0 := by have := (List.getElem?_eq_some_iff.1 hj).1; simp at this; omega
    subst this
    simp at hj
    subst hj
    have hlt : i < ss.length := (List.getElem?_eq_some_iff.1 hx).1
    rw [show GoT.n ByteArray = 1 from rfl]
    simp [World.cell?, hg, List.getElem?_append_left, hlt]
    exact (List.getElem?_eq_some_iff.1 hx).2
/-- All blocks but that of v, as they were. -/
def But (w w' : World) (v : Value) : Prop := w.grownBy w' v.ownBlock
theorem But.refl (w : World) (v : Value) : But w w v := ⟨rfl, rfl, rfl, Nat.le_refl _, fun _ _ _ => rfl⟩
theorem But.trans {a b c : World} {v v' : Value} (h : But a b v) (h' : But b c v') (hv : v'.ownBlock = v.ownBlock) : But a c v :=
  ⟨h'.os.trans h.os, h'.tape.trans h.tape, h'.output.trans h.output, Nat.le_trans h.size h'.size, fun k hk hne => (h'.block k (Nat.lt_of_lt_of_le hk h.size) (by rw [hv]; exact hne)).trans (h.block k hk hne)⟩
theorem But.of_ext {w w' : World} (v : Value) (h : Ev.Ext w w') : But w w' v := ⟨h.os, h.tape, h.output, h.size, fun k hk _ => h.block k hk⟩
/-- what is left of a row in which those of which p is true go -/
def left (p : ByteArray → Bool) (l : List ByteArray) : List ByteArray := l.filter fun s => !p s
set_option maxHeartbeats 1000000 in
theorem indexS_any (v : Value) (l : List ByteArray) (Kb : Blocks) (w : World) (h : Sl Kb w v l) (F : Nat) (caps : Array Value) (hF : ∀ (args : Array Value) (wy : World), (callFunc F args).run Try.prog wy = .ok (.enter F args) wy) (p : ByteArray → Bool)
    (hp : ∀ (x : ByteArray) (wy : World), x ∈ l → Ev.Ext w wy → Calls Try.prog F (#[.string x] ++ caps) wy fun e w' => e = .returned (.bool (p x)) ∧ Ev.Ext wy w') :
    Calls Try.prog 57 #[v, .func (.func F) #[] caps] w fun e w' => e = .returned (.int .i64 (idxF p l)) ∧ Ev.Ext w w' := by
  obtain ⟨a, cap, rfl⟩ := h.form
  have hlen := h.len_le
  have HP := Lib.hid hp
  clear hp
  go_enter Try.func57, Try.ntmps57
  go_wp2_with fail
  go_loopw [4, 8] (fun r i wr => ∃ (k : Nat), r = .int .i64 0 ∧ i = .int .i64 k ∧ k ≤ l.length ∧ Ev.Ext w wr ∧ NoneTo p l k) (fun _ i _ => l.length - (intOf i).toNat)
  case atStart => exact ⟨0, rfl, rfl, by omega, Ev.Ext.refl _, NoneTo.zero p l⟩
  case round =>
    obtain ⟨k, rfl, rfl, hk, hext, hno⟩ := hrel
    by_cases h1 : k < l.length
    · have hx : l[k]? = some l[k] := by simp [h1]
      obtain ⟨b, o, rfl, hKb, hs0, c0⟩ := (str_cells h).2 k l[k] hx
      have c0 := cell_later hext c0
      have hc := HP.out l[k] wr (List.getElem_mem h1) hext
      have HX := Lib.hid hx
      clear hx
      cases hpx : p l[k]
      all_goals
        rw [hpx] at hc
        have HX2 := Lib.hid hpx
        clear hpx
        go_wp2_with fail
        refine hc.mono ?_; rintro e w3 ⟨rfl, hb3⟩
        clear hc
        go_wp2
      · go_roundw
        case rel => exact ⟨k + 1, rfl, by go_num, by omega, hext.trans hb3, hno.next HX.out HX2.out⟩
        case measure => simp [intOf]; omega
      · go_ret
        rw [hno.found HX.out HX2.out]
        exact ⟨rfl, hext.trans hb3⟩
    · obtain rfl : k = l.length := by omega
      go_wp2
      go_ret
      rw [hno.all]
      exact ⟨rfl, hext⟩
/-- The row in the midst of DeleteFunc: in front the i that are kept, behind what was there from j on. -/
structure DelAt (w : World) (g : Nat) (l : List ByteArray) (tail : List Value) (p : ByteArray → Bool) (i j : Nat) : Prop where
  ex : ∃ cur : List Value, w.heap[g]? = some (.cells (cur ++ tail).toArray 9) ∧ cur.length = l.length ∧ cur.take i = (left p (l.take j)).map Value.string ∧ cur.drop j = (l.drop j).map Value.string
  len : (left p (l.take j)).length = i
  le : i ≤ j ∧ j ≤ l.length
theorem left_snoc (p : ByteArray → Bool) (l : List ByteArray) {j : Nat} (hj : j < l.length) : left p (l.take (j + 1)) = left p (l.take j) ++ (if p l[j] then [] else [l[j]]) := by
  unfold left
  rw [List.take_succ_eq_append_getElem hj, List.filter_append]
  cases hpx : p l[j] <;> simp [hpx]
theorem DelAt.cell {w : World} {g : Nat} {l : List ByteArray} {tail : List Value} {p : ByteArray → Bool} {i j : Nat} (h : DelAt w g l tail p i j) (hj : j < l.length) : w.cell? ⟨g, j, none⟩ = some (.string l[j]) ∧ w.cell? ⟨g, j, none⟩ = some (.string l[j]) := by
  obtain ⟨⟨cur, h1, h2, h3, h4⟩, _, _⟩ := h
  have : cur[j]? = some (.string l[j]) := by
    have := congrArg (·[0]?) h4
    simp [hj] at this
    exact this
  have hc : w.cell? ⟨g, j, none⟩ = some (.string l[j]) := by
    have hlt : j < cur.length := by omega
    simp [World.cell?, h1, List.getElem?_append_left hlt, this]
  exact ⟨hc, hc⟩
theorem DelAt.some {w : World} {g : Nat} {l : List ByteArray} {tail : List Value} {p : ByteArray → Bool} {i j k : Nat} (h : DelAt w g l tail p i j) (hk : k < l.length) : (∃ u, w.cell? ⟨g, k, none⟩ = some u) ∧ w.frozen? ⟨g, k, none⟩ = false := by
  obtain ⟨⟨cur, h1, h2, h3, h4⟩, _, _⟩ := h
  have hlt : k < cur.length := by omega
  exact ⟨⟨cur[k], by simp [World.cell?, h1, List.getElem?_append_left hlt, hlt]⟩, by simp [World.frozen?, h1]⟩
theorem DelAt.drop {w : World} {g : Nat} {l : List ByteArray} {tail : List Value} {p : ByteArray → Bool} {i j : Nat} (h : DelAt w g l tail p i j) (hj : j < l.length) (hp : p l[j] = true) : DelAt w g l tail p i (j + 1) := by
  obtain ⟨⟨cur, h1, h2, h3, h4⟩, h5, h6⟩ := h
  have e := left_snoc p l hj
  rw [hp] at e
  simp at e
  refine ⟨⟨cur, h1, h2, by rw [e]; exact h3, ?_⟩, by rw [e]; exact h5, by omega⟩
  have := congrArg (List.drop 1) h4
  simpa [List.drop_drop] using this
theorem DelAt.keep {w : World} {g : Nat} {l : List ByteArray} {tail : List Value} {p : ByteArray → Bool} {i j : Nat} (h : DelAt w g l tail p i j) (hj : j < l.length) (hp : p l[j] = false) : DelAt (w.setCell ⟨g, i, none⟩ (.string l[j])) g l tail p (i + 1) (j + 1) := by
  obtain ⟨⟨cur, h1, h2, h3, h4⟩, h5, h6⟩ := h
  have e := left_snoc p l hj
  rw [hp] at e
  simp at e
  have hi : i < cur.length := by omega
  refine ⟨⟨cur.set i (.string l[j]), ?_, by simpa using h2, ?_, ?_⟩, by rw [e]; simp; omega, by omega⟩
  · simp [World.setCell, Array.getElem?_modify, h1, List.set_append_left, hi]
  · rw [e, List.map_append, ← h3, List.take_succ_eq_append_getElem (by simpa using hi)]
    simp
    rw [List.take_set_of_le (Nat.le_refl _)]
  · rw [List.drop_set_of_lt (by omega)]
    have := congrArg (List.drop 1) h4
    simpa [List.drop_drop] using this
theorem setCells_heap (g : Nat) (e : TypeId) : ∀ (vs : List Value) (a : Nat) (w : World) (L : List Value), w.heap[g]? = some (.cells L.toArray e) → a + vs.length ≤ L.length →
    (w.setCells g a vs).heap[g]? = some (.cells (L.take a ++ vs ++ L.drop (a + vs.length)).toArray e)
  | [], a, w, L, h, _ => by simpa [World.setCells] using h
  | v :: r, a, w, L, h, hl => by
    simp only [List.length_cons] at hl
    have h1 : (w.setCell ⟨g, a, none⟩ v).heap[g]? = some (.cells (L.set a v).toArray e) := by simp [World.setCell, Array.getElem?_modify, h]
    rw [World.setCells, setCells_heap g e r (a + 1) _ _ h1 (by simpa using by omega)]
    have e1 : (L.set a v).take (a + 1) = L.take a ++ [v] := by
      rw [List.take_succ_eq_append_getElem (by simp; omega)]
      simp
      rw [List.take_set_of_le (Nat.le_refl _)]
    have e2 : (L.set a v).drop (a + 1 + r.length) = L.drop (a + 1 + r.length) := List.drop_set_of_lt (by omega)
    rw [e1, e2]
    simp [Nat.add_assoc, Nat.add_comm 1]
theorem setCells_but (g : Nat) (v : Value) (hv : v.ownBlock = some g) : ∀ (vs : List Value) (a : Nat) (w : World), But w (w.setCells g a vs) v
  | [], a, w => But.refl w v
  | x :: r, a, w => by
    have h1 : But w (w.setCell ⟨g, a, none⟩ x) v := ⟨rfl, rfl, rfl, by simp [World.setCell], fun k _ hne => Below.heap_setCell _ _ _ _ (fun e => hne (by rw [hv, e]))⟩
    exact h1.trans (setCells_but g v hv r (a + 1) _) rfl
theorem left_none {p : ByteArray → Bool} {l : List ByteArray} {k : Nat} (h : NoneTo p l k) (hk : k ≤ l.length) : left p (l.take k) = l.take k := by
  unfold left
  rw [List.filter_eq_self]
  intro x hx
  obtain ⟨i, hi, rfl⟩ := List.getElem_of_mem hx
  rw [List.length_take] at hi
  have := h i _ (by omega) (List.getElem?_eq_getElem (by omega : i < l.length))
  simpa using this
theorem idxF_spec {α : Type} (p : α → Bool) (l : List α) : (idxF p l = -1 ∧ NoneTo p l l.length) ∨ ∃ k : Nat, idxF p l = k ∧ ∃ h : k < l.length, p l[k] = true ∧ NoneTo p l k := by
  unfold idxF
  cases hf : l.findIdx? p with
  | none =>
    refine .inl ⟨rfl, fun i x _ hx => ?_⟩
    rw [List.findIdx?_eq_none_iff] at hf
    simpa using hf x (List.mem_of_getElem? hx)
  | some k =>
    rw [List.findIdx?_eq_some_iff_getElem] at hf
    obtain ⟨hk, hp, hn⟩ := hf
    refine .inr ⟨k, rfl, hk, hp, fun i x hi hx => ?_⟩
    have := hn i hi
    rw [(List.getElem?_eq_some_iff.1 hx).2] at this
    simpa using this
set_option maxHeartbeats 2000000 in
theorem delS_any (B : Nat) (v : Value) (l : List ByteArray) (w : World) (h : SOwn B w v l) (F : Nat) (caps : Array Value) (hF : ∀ (args : Array Value) (wy : World), (callFunc F args).run Try.prog wy = .ok (.enter F args) wy) (p : ByteArray → Bool)
    (hp : ∀ (x : ByteArray) (wy : World), x ∈ l → But w wy v → Calls Try.prog F (#[.string x] ++ caps) wy fun e w' => e = .returned (.bool (p x)) ∧ wy = w') :
    Calls Try.prog 45 #[v, .func (.func F) #[] caps] w fun e w' => ∃ v', e = .returned v' ∧ But w w' v ∧ SOwn B w' v' (left p l) := by
  have hsl : Sl (KN (fun _ => False) B) w v l := h.sl
  have hlen := hsl.len_le
  have HP := Lib.hid hp
  clear hp
  rcases idxF_spec p l with ⟨hi, hno⟩ | ⟨k0, hi, hk0, hpk, hno⟩
  · have e : left p l = l := by have := left_none hno (Nat.le_refl _); rwa [List.take_length] at this
    have HE := Lib.hid e
    have HI := Lib.hid hi
    clear e hi
    go_enter Try.func45, Try.ntmps45
    go_wp2_with fail
    refine (indexS_any v l _ w hsl F caps hF p (fun x wy hx hy => (HP.out x wy hx (But.of_ext v hy)).mono fun e w' ⟨a, b⟩ => ⟨a, b ▸ Ev.Ext.refl _⟩)).mono ?_
    rintro e w1 ⟨rfl, hb1⟩
    rw [HI.out]
    go_wp2
    go_ret
    rw [HE.out]
    refine ⟨_, rfl, But.of_ext v hb1, ?_⟩
    rcases h with ⟨rfl, rfl⟩ | ⟨g, cap, tail, rfl, hB, hg, hr⟩
    · exact .inl ⟨rfl, rfl⟩
    · exact .inr ⟨g, cap, tail, rfl, hB, by rw [hb1.block g (Array.getElem?_eq_some_iff.1 hg).1]; exact hg, hr⟩
  · rcases h with ⟨rfl, rfl⟩ | ⟨g, cap, tail, rfl, hB, hg, hc, hm, hs⟩
    · simp at hk0
    have HI := Lib.hid hi
    clear hi
    go_enter Try.func45, Try.ntmps45
    go_wp2_with fail
    refine (indexS_any _ l _ w hsl F caps hF p (fun x wy hx hy => (HP.out x wy hx (But.of_ext _ hy)).mono fun e w' ⟨a, b⟩ => ⟨a, b ▸ Ev.Ext.refl _⟩)).mono ?_
    rintro e w1 ⟨rfl, hb1⟩
    rw [HI.out]
    have hd0 : DelAt w1 g l tail p k0 (k0 + 1) := ⟨⟨l.map Value.string, by rw [hb1.block g (Array.getElem?_eq_some_iff.1 hg).1]; exact hg, by simp, by
      have e := left_snoc p l hk0
      rw [hpk] at e
      simp at e
      rw [e, left_none hno (by omega), List.map_take], by rw [List.map_drop]⟩, by
      have e := left_snoc p l hk0
      rw [hpk] at e
      simp at e
      rw [e, left_none hno (by omega)]; (try simp) <;> (try omega), by omega⟩
    have hbut := But.of_ext (.slice (some ⟨g, 0, none⟩) l.length cap) hb1
    have hkz : ((k0 : Int) == -1) = false := by simp <;> omega
    clear hb1 hg hno hpk hsl
    go_wp2_with fail
    go_loopw [5, 6] (fun i j wr => ∃ (a b : Nat), i = .int .i64 a ∧ j = .int .i64 b ∧ a < b ∧ But w wr (.slice (some ⟨g, 0, none⟩) l.length cap) ∧ DelAt wr g l tail p a b) (fun _ j _ => l.length - (intOf j).toNat)
    case atStart => exact ⟨k0, k0 + 1, rfl, by go_num, by omega, hbut, hd0⟩
    case round =>
      obtain ⟨a, b, rfl, rfl, hab, hbr, hd⟩ := hrel
      have hle := hd.le
      by_cases h1 : b < l.length
      · obtain ⟨c0, _⟩ := hd.cell h1
        have hc2 := HP.out l[b] wr (List.getElem_mem h1) hbr
        cases hpx : p l[b]
        all_goals
          rw [hpx] at hc2
          have HX2 := Lib.hid hpx
          clear hpx
          go_wp2_with fail
          refine hc2.mono ?_; rintro e w3 ⟨rfl, rfl⟩
          clear hc2
        · obtain ⟨⟨u, cu⟩, zu⟩ := hd.some (k := a) (by omega)
          go_wp2
          go_roundw
          case rel => exact ⟨a + 1, b + 1, by go_num, by go_num, by omega, hbr.trans ⟨rfl, rfl, rfl, by simp [World.setCell], fun k _ hne => Below.heap_setCell _ _ _ _ (fun e => hne (by simp [Value.ownBlock, e]))⟩ rfl, hd.keep h1 HX2.out⟩
          case measure => simp [intOf]; omega
        · go_wp2
          go_roundw
          case rel => exact ⟨a, b + 1, by go_num, by go_num, by omega, hbr, hd.drop h1 HX2.out⟩
          case measure => simp [intOf]; omega
      · obtain rfl : b = l.length := by omega
        have hal : a < l.length := hab
        have hac : a ≤ cap := by omega
        have hlc : l.length ≤ cap := by omega
        have hne : ¬ cap = a := by omega
        have hn0 : 0 < l.length - a := by omega
        have hcl : ∀ ty, (Builtin.clear_ #[59] ty #[.slice (some ⟨g, a, none⟩) (l.length - a) (cap - a)]).run Try.prog wr = .ok (.tuple #[]) (wr.setCells g a (List.replicate (l.length - a) (.string ⟨#[]⟩))) := fun ty =>
          Lib.run_clear_slice (P := Try.prog) wr 59 9 ty (.string ⟨#[]⟩) Try.underlying59 (fun w => by kernel_rfl) rfl rfl g a (l.length - a) (cap - a) hn0
            (fun j hj => by obtain ⟨⟨u, cu⟩, _⟩ := hd.some (k := a + j) (by omega); rw [cu]; rfl) (fun j hj => (hd.some (k := a + j) (by omega)).2)
        have hle2 := hd.len
        rw [List.take_length] at hle2
        have hfin : SOwn B (wr.setCells g a (List.replicate (l.length - a) (.string ⟨#[]⟩))) (.slice (some ⟨g, 0, none⟩) (left p l).length cap) (left p l) := by
          obtain ⟨⟨cur, q1, q2, q3, _⟩, _, _⟩ := hd
          rw [List.take_length] at q3
          refine .inr ⟨g, cap, List.replicate (l.length - a) (.string ⟨#[]⟩) ++ tail, rfl, hB, ?_, by simp; omega, hm, fun s hs' => hs s (List.mem_filter.1 hs').1⟩
          rw [setCells_heap g _ _ a wr _ q1 (by simp; omega), ← q3]
          congr 2
          rw [List.take_append_of_le_length (by omega), List.append_assoc, List.length_replicate, show a + (l.length - a) = cur.length from by omega, List.drop_left]
        rw [hle2] at hfin
        have HF := Lib.hid hfin
        have hbl := hbr.trans (setCells_but g (.slice (some ⟨g, 0, none⟩) l.length cap) rfl (List.replicate (l.length - a) (.string ⟨#[]⟩)) a wr) rfl
        have HB := Lib.hid hbl
        clear hfin hbl hle2
        go_wp2
        go_ret
        exact ⟨_, rfl, HB.out, HF.out⟩
end Go.Proofs.Ytfalbocgnmlncaa
