/- The reference's add, Bounds. -/
import Derived.Test.YtfalbocgnmlncaaKRef
import Derived.Test.YtfalbocgnmlncaaKPlain2
set_option linter.unusedSimpArgs false
set_option linter.unusedVariables false
namespace Go.Proofs.Ytfalbocgnmlncaa
open Go.RowKit R
theorem str_elem : ElemT Try.prog 59 9 1 16 := ⟨Try.underlying59, by
  have h : (Try.prog.info? 9).map (fun i => (i.zero, i.size, i.bytes)) = some (some (.string ⟨#[]⟩), 1, 16) := by kernel_rfl
  obtain ⟨i, hi, h1, h2, h3⟩ := info_parts h
  exact ⟨i, _, hi, h1, h2, h3, rfl⟩⟩
def insF : List ByteArray → ByteArray → List ByteArray
  | [], s => [s]
  | x :: r, s => if Op.bytesLess s.toList x.toList then s :: x :: r else x :: insF r s
def addF (l : List ByteArray) (s : ByteArray) : List ByteArray :=
  if s.toList.isEmpty then l else if l.any (fun x => x.toList == s.toList) then l else insF l s
/-- where add's loop stands -/
def InsAt (l : List ByteArray) (s : ByteArray) (k : Nat) (put : Bool) (out : List ByteArray) : Prop :=
  out ++ (if put then l.drop k else insF (l.drop k) s) = insF l s
theorem InsAt.keep {l : List ByteArray} {s : ByteArray} {k : Nat} {put : Bool} {out : List ByteArray} (h : InsAt l s k put out) (hk : k < l.length) (hp : put = true ∨ Op.bytesLess s.toList l[k].toList = false) : InsAt l s (k + 1) put (out ++ [l[k]]) := by
  unfold InsAt at *
  rw [← h, List.drop_eq_getElem_cons hk]
  cases put with
  | true => simp
  | false =>
    have := hp.resolve_left (by simp)
    simp [insF, this]
theorem InsAt.put {l : List ByteArray} {s : ByteArray} {k : Nat} {out : List ByteArray} (h : InsAt l s k false out) (hk : k < l.length) (hp : Op.bytesLess s.toList l[k].toList = true) : InsAt l s (k + 1) true (out ++ [s] ++ [l[k]]) := by
  unfold InsAt at *
  rw [← h, List.drop_eq_getElem_cons hk]
  simp [insF, hp]
def Unlike (l : List ByteArray) (s : ByteArray) (k : Nat) : Prop := ∀ (i : Nat) (x : ByteArray), i < k → l[i]? = some x → (x.toList == s.toList) = false
theorem Unlike.next {l : List ByteArray} {s : ByteArray} {k : Nat} (h : Unlike l s k) {x : ByteArray} (hx : l[k]? = some x) (he : (x.toList == s.toList) = false) : Unlike l s (k + 1) := fun i y hi hy => by
  by_cases e : i = k
  · subst e; rw [hx] at hy; cases hy; exact he
  · exact h i y (by omega) hy
theorem addF_like {l : List ByteArray} {s : ByteArray} {k : Nat} (hk : k < l.length) (he : (l[k].toList == s.toList) = true) : addF l s = l := by
  unfold addF
  have : l.any (fun x => x.toList == s.toList) = true := List.any_eq_true.2 ⟨l[k], List.getElem_mem hk, he⟩
  rw [this]; split <;> rfl
theorem addF_new {l : List ByteArray} {s : ByteArray} (hs : s.toList.isEmpty = false) (h : Unlike l s l.length) : addF l s = insF l s := by
  unfold addF
  have : l.any (fun x => x.toList == s.toList) = false := by
    rw [List.any_eq_false]
    intro x hx
    obtain ⟨i, hi, rfl⟩ := List.getElem_of_mem hx
    rw [h i _ hi (List.getElem?_eq_getElem hi)]; simp
  rw [hs, this]; rfl
/-- What was known, and what is new. -/
abbrev KN (K : Blocks) (B : Nat) : Blocks := fun b => (K b ∧ b < B) ∨ B ≤ b
theorem R.Sl.wide {α : Type} [GoT α] {K : Blocks} {w w' : World} {v : Value} {xs : List α} (h : Sl K w v xs) (he : Ev.Ext w w') : Sl (KN K w.heap.size) w' v xs := h.mono fun b hb hlt => ⟨.inl ⟨hb, hlt⟩, he.block b hlt⟩
theorem ext_alloc (w : World) (o : Obj) : Ev.Ext w (w.alloc o) := (Below.refl _ _).alloc (Nat.le_refl _) _
set_option maxHeartbeats 2000000 in
theorem radd_any (v : Value) (l : List ByteArray) (s : ByteArray) (hs : s.size ≤ 9223372036854775807) (hl : l.length ≤ 1000) (Kb : Blocks) (w : World) (h : Sl Kb w v l) :
    Calls Try.prog 51 #[v, .string s] w fun e w' => ∃ v', e = .returned v' ∧ Ev.Ext w w' ∧ Sl (KN Kb w.heap.size) w' v' (addF l s) := by
  obtain ⟨a, cap, rfl⟩ := h.form
  have hlen := h.len_le
  cases he : s.toList.isEmpty
  · go_enter Try.func51, Try.ntmps51
    go_wp2_with fail
    go_loopw [4, 5, 6, 7] (fun r o p i wr => ∃ (k : Nat) (put : Bool) (out : List ByteArray), r = .slice none 0 0 ∧ p = .bool put ∧ i = .int .i64 k ∧ k ≤ l.length ∧ out.length ≤ 2 * k ∧ Ev.Ext w wr ∧ Grow 9 Kb w.heap.size wr o out ∧ InsAt l s k put out ∧ Unlike l s k) (fun _ _ _ i _ => l.length - (intOf i).toNat)
    case atStart => exact ⟨0, false, [], rfl, rfl, rfl, by omega, by simp, Ev.Ext.refl _, Grow.nil _ _ _ _, rfl, fun i x hi => by omega⟩
    case round =>
      obtain ⟨k, put, out, rfl, rfl, rfl, hk, ho, hext, hg, hat, hun⟩ := hrel
      by_cases h1 : k < l.length
      · have hx : l[k]? = some l[k] := by simp [h1]
        obtain ⟨b, o, rfl, hKb, hs0, c0⟩ := (str_cells h).2 k l[k] hx
        have cw := c0
        have c0 := cell_later hext cw
        have HX := Lib.hid hx
        clear hx
        cases hq : (l[k].toList == s.toList)
        · have hu := hun.next HX.out hq
          cases hlt : Op.bytesLess s.toList l[k].toList
          · have h2 : Op.bytesLess l[k].toList s.toList = true := by
              cases h3 : Op.bytesLess l[k].toList s.toList with
              | true => rfl
              | false => have := K.bl_tri _ _ h3 hlt; rw [this] at hq; simp at hq
            have ha := hat.keep h1 (.inr hlt)
            have HA := Lib.hid ha
            have HU := Lib.hid hu
            clear ha hu
            cases put
            all_goals
              go_wp2_with (at_builtin; refine R.wpList_append rfl _ _ 59 rfl str_elem _ _ rfl (hg.ext (ext_alloc _ _)) ⟨_, 0, none⟩ 1 [l[k]] rfl [[.string l[k]]] (.cons ⟨rfl, hs0⟩ .nil) (row_cells (heap_alloc_new _ _)) (by simp [maxLen]; omega) (by simp; omega) (Nat.le_trans hext.size (ext_alloc _ _).size) ?_; intro v1 w1 hg1 hgb1)
              exact ⟨⟨k + 1, _, out ++ [l[k]], rfl, rfl, by go_num, by omega, by simp; omega, grown_below (hext.trans (ext_alloc _ _)) hgb1 (Nat.le_trans hext.size (ext_alloc _ _).size) hg.base, hg1, HA.out, HU.out⟩, by simp [intOf]; omega⟩
          · have h2 : Op.bytesLess l[k].toList s.toList = false := K.le_of_lt hlt
            cases put
            · have ha := hat.put h1 hlt
              have HA := Lib.hid ha
              have HU := Lib.hid hu
              clear ha hu
              go_wp2_with (first | (at_builtin; refine R.wpList_append rfl _ _ 59 rfl str_elem _ _ rfl (hg.ext (ext_alloc _ _)) ⟨_, 0, none⟩ 1 [s] rfl [[.string s]] (.cons ⟨rfl, hs⟩ .nil) (row_cells (heap_alloc_new _ _)) (by simp [maxLen]; omega) (by simp; omega) (Nat.le_trans hext.size (ext_alloc _ _).size) ?_; intro v1 w1 hg1 hgb1; have hext2 : Ev.Ext w w1 := grown_below (hext.trans (ext_alloc _ _)) hgb1 (Nat.le_trans hext.size (ext_alloc _ _).size) hg.base; have c1 := cell_later hext2 cw; clear hgb1 hg c0 hext; have hg := hg1; have hext := hext2; clear hg1 hext2) | (at_builtin; refine R.wpList_append rfl _ _ 59 rfl str_elem _ _ rfl (hg.ext (ext_alloc _ _)) ⟨_, 0, none⟩ 1 [l[k]] rfl [[.string l[k]]] (.cons ⟨rfl, hs0⟩ .nil) (row_cells (heap_alloc_new _ _)) (by simp [maxLen]; omega) (by simp; omega) (Nat.le_trans hext.size (ext_alloc _ _).size) ?_; intro v1 w1 hg1 hgb1))
              exact ⟨⟨k + 1, true, out ++ [s] ++ [l[k]], rfl, rfl, by go_num, by omega, by simp; omega, grown_below (hext.trans (ext_alloc _ _)) hgb1 (Nat.le_trans hext.size (ext_alloc _ _).size) hg.base, hg1, HA.out, HU.out⟩, by simp [intOf]; omega⟩
            · have ha := hat.keep h1 (.inl rfl)
              have HA := Lib.hid ha
              have HU := Lib.hid hu
              clear ha hu
              go_wp2_with (at_builtin; refine R.wpList_append rfl _ _ 59 rfl str_elem _ _ rfl (hg.ext (ext_alloc _ _)) ⟨_, 0, none⟩ 1 [l[k]] rfl [[.string l[k]]] (.cons ⟨rfl, hs0⟩ .nil) (row_cells (heap_alloc_new _ _)) (by simp [maxLen]; omega) (by simp; omega) (Nat.le_trans hext.size (ext_alloc _ _).size) ?_; intro v1 w1 hg1 hgb1)
              exact ⟨⟨k + 1, _, out ++ [l[k]], rfl, rfl, by go_num, by omega, by simp; omega, grown_below (hext.trans (ext_alloc _ _)) hgb1 (Nat.le_trans hext.size (ext_alloc _ _).size) hg.base, hg1, HA.out, HU.out⟩, by simp [intOf]; omega⟩
        · have hq2 := addF_like h1 hq
          have HQ := Lib.hid hq2
          clear hq2
          go_wp2
          go_ret
          rw [HQ.out]
          exact ⟨_, rfl, hext, h.wide hext⟩
      · obtain rfl : k = l.length := by omega
        have hq := addF_new he hun
        have HQ := Lib.hid hq
        clear hq
        cases put
        · go_wp2_with (at_builtin; refine R.wpList_append rfl _ _ 59 rfl str_elem _ _ rfl (hg.ext (ext_alloc _ _)) ⟨_, 0, none⟩ 1 [s] rfl [[.string s]] (.cons ⟨rfl, hs⟩ .nil) (row_cells (heap_alloc_new _ _)) (by simp [maxLen]; omega) (by simp; omega) (Nat.le_trans hext.size (ext_alloc _ _).size) ?_; intro v1 w1 hg1 hgb1)
          go_ret
          have e : addF l s = out ++ [s] := by rw [HQ.out, ← hat]; simp [insF]
          rw [e]
          exact ⟨_, rfl, grown_below (hext.trans (ext_alloc _ _)) hgb1 (Nat.le_trans hext.size (ext_alloc _ _).size) hg.base, hg1.sl (by simp; omega)⟩
        · go_wp2
          go_ret
          have e : addF l s = out := by rw [HQ.out, ← hat]; simp
          rw [e]
          exact ⟨_, rfl, hext, hg.sl (by omega)⟩
  · have e : addF l s = l := by unfold addF; rw [he]; rfl
    go_enter Try.func51, Try.ntmps51
    go_wp2
    go_ret
    rw [e]
    exact ⟨_, rfl, Ev.Ext.refl _, h.wide (Ev.Ext.refl _)⟩
theorem addF_length (l : List ByteArray) (s : ByteArray) : (addF l s).length ≤ l.length + 1 := by
  have hi : ∀ l : List ByteArray, (insF l s).length = l.length + 1 := by
    intro l
    induction l with
    | nil => rfl
    | cons x r ih => unfold insF; split <;> simp [ih]
  unfold addF
  split
  · omega
  · split
    · omega
    · rw [hi]; omega
def rboundsF (l : List Rng) : List ByteArray := l.foldl (fun o r => addF (addF o r.f) r.t) []
theorem rbounds_snoc (l : List Rng) (r : Rng) : rboundsF (l ++ [r]) = addF (addF (rboundsF l) r.f) r.t := by simp [rboundsF]
theorem rbounds_length (l : List Rng) : (rboundsF l).length ≤ 2 * l.length := by
  have : ∀ (l : List Rng) (o : List ByteArray), (l.foldl (fun o r => addF (addF o r.f) r.t) o).length ≤ o.length + 2 * l.length := by
    intro l
    induction l with
    | nil => intro o; simp
    | cons r t ih =>
      intro o
      have h1 := ih (addF (addF o r.f) r.t)
      have h2 := addF_length (addF o r.f) r.t
      have h3 := addF_length o r.f
      simp only [List.foldl_cons, List.length_cons]; omega
  have := this l []
  simpa [rboundsF] using this
theorem R.Sl.known {α : Type} [GoT α] {K : Blocks} {B B' : Nat} {w : World} {v : Value} {xs : List α} (h : Sl (KN (KN K B) B') w v xs) (hB : B ≤ B') : Sl (KN K B) w v xs := h.mono fun b hb _ => ⟨by
  rcases hb with ⟨hb, h1⟩ | h1
  · exact hb
  · exact .inr (by omega), rfl⟩
set_option maxHeartbeats 2000000 in
theorem rbounds_any (v : Value) (l : List Rng) (hl : l.length ≤ 100) (Kb : Blocks) (w : World) (h : Sl Kb w v l) :
    Calls Try.prog 36 #[v] w fun e w' => ∃ v', e = .returned v' ∧ Ev.Ext w w' ∧ Sl (KN Kb w.heap.size) w' v' (rboundsF l) := by
  obtain ⟨a, cap, rfl⟩ := h.form
  have hlen := h.len_le
  go_enter Try.func36, Try.ntmps36
  go_wp2_with fail
  go_loopw [3, 4] (fun o i wr => ∃ (k : Nat), i = .int .i64 k ∧ k ≤ l.length ∧ Ev.Ext w wr ∧ Sl (KN Kb w.heap.size) wr o (rboundsF (l.take k))) (fun _ i _ => l.length - (intOf i).toNat)
  case atStart => exact ⟨0, rfl, by omega, Ev.Ext.refl _, Sl.nil _ _⟩
  case round =>
    obtain ⟨k, rfl, hk, hext, hsl⟩ := hrel
    by_cases h1 : k < l.length
    · obtain ⟨b, o, rfl, hKb, hs0, hs1, c0, c1⟩ := (rng_cells h).2 k l[k] (by simp [h1])
      have d0 := cell_later hext c0
      have hn := rbounds_length (l.take k)
      rw [List.length_take] at hn
      have hn2 := addF_length (rboundsF (l.take k)) l[k].f
      have hn1 : (rboundsF (l.take k)).length ≤ 1000 := by omega
      have hn3 : (addF (rboundsF (l.take k)) l[k].f).length ≤ 1000 := by omega
      clear hn hn2
      go_wp2_with fail
      refine (radd_any _ _ _ hs0 hn1 _ _ hsl).mono ?_; rintro e w3 ⟨v3, rfl, hb3, hs3⟩
      have hsl3 := hs3.known hext.size
      have d1 := cell_later (hext.trans hb3) c1
      clear hs3 hsl
      go_wp2_with fail
      refine (radd_any _ _ _ hs1 hn3 _ _ hsl3).mono ?_; rintro e w4 ⟨v4, rfl, hb4, hs4⟩
      have hsl4 := hs4.known (hext.trans hb3).size
      clear hs4
      go_wp2
      go_roundw
      case rel => exact ⟨k + 1, by go_num, by omega, (hext.trans hb3).trans hb4, by rw [List.take_succ_eq_append_getElem h1, rbounds_snoc]; exact hsl4⟩
      case measure => simp [intOf]; omega
    · obtain rfl : k = l.length := by omega
      have e := List.take_length (l := l)
      rw [e] at hsl
      clear e
      go_wp2
      go_ret
      exact ⟨_, rfl, hext, hsl⟩
end Go.Proofs.Ytfalbocgnmlncaa
