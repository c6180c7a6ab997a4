/- Bounds: both are the one row that rises and has just the texts of the ranges. -/
import Derived.Test.YtfalbocgnmlncaaKSort
set_option linter.unusedSimpArgs false
set_option linter.unusedVariables false
namespace Go.Proofs.Ytfalbocgnmlncaa
open Go.RowKit R
abbrev LT' (a b : List UInt8) : Prop := Op.bytesLess a b = true
theorem le_dec (x y : List UInt8) : decide (x ≤ y) = !Op.bytesLess y x := by
  rw [bytesLess_eq, ← decide_not]
  rfl
theorem lt_irrefl' (a : List UInt8) : ¬ LT' a a := by simp [LT', K.bl_irrefl]
theorem rising_unique : ∀ (l m : List (List UInt8)), l.Pairwise LT' → m.Pairwise LT' → (∀ x, x ∈ l ↔ x ∈ m) → l = m
  | [], [], _, _, _ => rfl
  | [], b :: m, _, _, h => absurd ((h b).2 List.mem_cons_self) (by simp)
  | a :: l, [], _, _, h => absurd ((h a).1 List.mem_cons_self) (by simp)
  | a :: l, b :: m, h1, h2, h => by
    rw [List.pairwise_cons] at h1 h2
    have hab : a = b := by
      have ha := (h a).1 List.mem_cons_self
      have hb := (h b).2 List.mem_cons_self
      rcases List.mem_cons.1 ha with e | ha
      · exact e
      rcases List.mem_cons.1 hb with e | hb
      · exact e.symm
      exact absurd (K.bl_trans _ _ _ (h1.1 b hb) (h2.1 a ha)) (by simp [K.bl_irrefl])
    subst hab
    rw [rising_unique l m h1.2 h2.2 fun x => ?_]
    constructor
    · intro hx
      rcases List.mem_cons.1 ((h x).1 (List.mem_cons_of_mem _ hx)) with e | hm
      · exact absurd (h1.1 x hx) (by rw [e]; exact lt_irrefl' a)
      · exact hm
    · intro hx
      rcases List.mem_cons.1 ((h x).2 (List.mem_cons_of_mem _ hx)) with e | hm
      · exact absurd (h2.1 x hx) (by rw [e]; exact lt_irrefl' a)
      · exact hm
/-! ### Compact of a row that does not fall -/
theorem compact_upto (d : Array (List UInt8)) (hs : ∀ (i j : Nat), i < j → j < d.size → K.le d[i]! d[j]!) : ∀ m, m ≤ d.size →
    (Go.Lib.compactUpTo d m).Pairwise LT' ∧ ∀ x, x ∈ Go.Lib.compactUpTo d m ↔ ∃ j, j < m ∧ x = d[j]!
  | 0, _ => by simp [Go.Lib.compactUpTo]
  | m + 1, hm => by
    obtain ⟨h1, h2⟩ := compact_upto d hs m (by omega)
    rw [Go.Lib.compactUpTo_succ]
    by_cases h0 : m = 0
    · subst h0
      have e : Go.Lib.keeps d 0 = true := by simp [Go.Lib.keeps]
      rw [e]
      have e0 : Go.Lib.compactUpTo d 0 = [] := rfl
      rw [e0]
      refine ⟨by simp, fun x => ?_⟩
      simp
    by_cases hk : d[m]! = d[m - 1]!
    · rw [Go.Lib.keeps_neg (by omega) hk]
      simp only [Bool.false_eq_true, if_false, List.append_nil]
      refine ⟨h1, fun x => ?_⟩
      rw [h2 x]
      constructor
      · rintro ⟨j, hj, rfl⟩; exact ⟨j, by omega, rfl⟩
      · rintro ⟨j, hj, rfl⟩
        by_cases e : j = m
        · subst e; exact ⟨j - 1, by omega, hk⟩
        · exact ⟨j, by omega, rfl⟩
    · rw [Go.Lib.keeps_pos hk]
      simp only [if_true]
      have hlt : LT' d[m - 1]! d[m]! := by
        have hle := hs (m - 1) m (by omega) (by omega)
        unfold LT'
        cases hq : Op.bytesLess d[m - 1]! d[m]! with
        | true => rfl
        | false => exact absurd (K.bl_tri _ _ hle hq) hk
      refine ⟨List.pairwise_append.2 ⟨h1, by simp, fun a ha b hb => ?_⟩, fun x => ?_⟩
      · obtain ⟨j, hj, rfl⟩ := (h2 a).1 ha
        simp at hb
        subst hb
        by_cases e : j = m - 1
        · subst e; exact hlt
        · exact K.lt_of_le_lt (hs j (m - 1) (by omega) (by omega)) hlt
      · rw [List.mem_append, h2 x]
        constructor
        · rintro (⟨j, hj, rfl⟩ | hx)
          · exact ⟨j, by omega, rfl⟩
          · exact ⟨m, by omega, by simpa using hx⟩
        · rintro ⟨j, hj, rfl⟩
          by_cases e : j = m
          · subst e; exact .inr (by simp)
          · exact .inl ⟨j, by omega, rfl⟩
theorem compact_sorted {zs : List (List UInt8)} (hs : zs.Pairwise K.le) : (Go.Lib.compact zs).Pairwise LT' ∧ ∀ x, x ∈ Go.Lib.compact zs ↔ x ∈ zs := by
  unfold Go.Lib.compact
  have h := compact_upto zs.toArray (fun i j hij hj => by
    rw [List.pairwise_iff_getElem] at hs
    have hj' : j < zs.length := by simpa using hj
    have := hs i j (by omega) hj' hij
    rw [getElem!_pos _ i (by simp; omega), getElem!_pos _ j (by simpa using hj)]
    simpa using this) zs.length (by simp)
  refine ⟨h.1, fun x => ?_⟩
  rw [h.2 x]
  constructor
  · rintro ⟨j, hj, rfl⟩
    rw [getElem!_pos _ j (by simpa using hj)]
    simp
  · intro hx
    obtain ⟨j, hj, rfl⟩ := List.getElem_of_mem hx
    exact ⟨j, hj, by rw [getElem!_pos _ j (by simpa using hj)]; simp⟩
theorem sort_le (l : List (List UInt8)) : (l.mergeSort fun x y => decide (x ≤ y)).Pairwise K.le := by
  refine (List.pairwise_mergeSort (le := fun x y => decide (x ≤ y)) ?_ ?_ l).imp ?_
  · intro a b c h1 h2
    rw [le_dec] at *
    simp only [Bool.not_eq_true'] at *
    exact K.le_trans h1 h2
  · intro a b
    rw [le_dec, le_dec]
    cases h : Op.bytesLess b a with
    | false => rfl
    | true => rw [show Op.bytesLess a b = false from K.le_of_lt h]; rfl
  · intro a b h
    rw [le_dec] at h
    simpa [K.le] using h
/-- A row of texts, by their bytes. -/
abbrev dat (l : List ByteArray) : List (List UInt8) := l.map (·.data.toList)
theorem dat_ba (l : List (List UInt8)) : dat (l.map ba) = l := by
  unfold dat
  rw [List.map_map]
  conv => rhs; rw [← List.map_id l]
  exact List.map_congr_left fun x _ => data_ba x
/-- The texts that bound ranges. -/
def Has (l : List Rng) (x : List UInt8) : Prop := x ≠ [] ∧ ∃ r ∈ l, x = r.f.data.toList ∨ x = r.t.data.toList
theorem mem_flat (l : List Rng) (s : ByteArray) : s ∈ flatF l ↔ ∃ r ∈ l, s = r.f ∨ s = r.t := by
  unfold flatF
  simp [List.mem_flatMap]
theorem bounds_spec (l : List Rng) : (dat (boundsF l)).Pairwise LT' ∧ ∀ x, x ∈ dat (boundsF l) ↔ Has l x := by
  unfold boundsF compF sortF
  rw [dat_ba]
  have e : (List.map (fun (x : ByteArray) => x.data.toList) (List.map ba ((List.map (fun (x : ByteArray) => x.data.toList) (left (fun s => s.toList.isEmpty) (flatF l))).mergeSort fun x y => decide (x ≤ y)))) = ((List.map (fun (x : ByteArray) => x.data.toList) (left (fun s => s.toList.isEmpty) (flatF l))).mergeSort fun x y => decide (x ≤ y)) := dat_ba _
  rw [e]
  have h := compact_sorted (sort_le (dat (left (fun s => s.toList.isEmpty) (flatF l))))
  refine ⟨h.1, fun x => ?_⟩
  rw [h.2 x, List.mem_mergeSort]
  unfold dat left Has
  simp only [List.mem_map, List.mem_filter, mem_flat]
  constructor
  · rintro ⟨s, ⟨⟨r, hr, hs⟩, hne⟩, rfl⟩
    rw [ByteArray.toList_eq] at hne
    refine ⟨by intro e; simp [e] at hne, r, hr, ?_⟩
    rcases hs with rfl | rfl
    · exact .inl rfl
    · exact .inr rfl
  · rintro ⟨hne, r, hr, hs⟩
    have hx : ∀ s : ByteArray, x = s.data.toList → (!s.toList.isEmpty) = true := fun s e => by
      rw [ByteArray.toList_eq, ← e]
      cases x with
      | nil => exact absurd rfl hne
      | cons => rfl
    rcases hs with hs | hs
    · exact ⟨r.f, ⟨⟨r, hr, .inl rfl⟩, hx _ hs⟩, hs.symm⟩
    · exact ⟨r.t, ⟨⟨r, hr, .inr rfl⟩, hx _ hs⟩, hs.symm⟩
/-! ### the reference's -/
theorem ins_spec : ∀ (l : List ByteArray) (s : ByteArray), (dat l).Pairwise LT' → (∀ x ∈ dat l, x ≠ s.data.toList) → (dat (insF l s)).Pairwise LT' ∧ ∀ x, x ∈ dat (insF l s) ↔ x ∈ dat l ∨ x = s.data.toList
  | [], s, _, _ => by simp [insF, dat]
  | y :: r, s, h, hn => by
    unfold insF
    have hc := List.pairwise_cons.1 (show (y.data.toList :: dat r).Pairwise LT' from h)
    split
    · rename_i hlt
      rw [ByteArray.toList_eq, ByteArray.toList_eq] at hlt
      refine ⟨List.pairwise_cons.2 ⟨fun x hx => ?_, h⟩, fun x => ?_⟩
      · rcases List.mem_cons.1 (show x ∈ y.data.toList :: dat r from hx) with e | hx
        · rw [e]; exact hlt
        · exact K.bl_trans _ _ _ hlt (hc.1 x hx)
      · show x ∈ s.data.toList :: dat (y :: r) ↔ _
        rw [List.mem_cons]; exact Or.comm
    · rename_i hlt
      rw [ByteArray.toList_eq, ByteArray.toList_eq] at hlt
      obtain ⟨h1, h2⟩ := ins_spec r s hc.2 fun x hx => hn x (List.mem_cons_of_mem _ hx)
      refine ⟨List.pairwise_cons.2 ⟨fun x hx => ?_, h1⟩, fun x => ?_⟩
      · rcases (h2 x).1 hx with hx | hx
        · exact hc.1 x hx
        · rw [hx]
          unfold LT'
          cases hq : Op.bytesLess y.data.toList s.data.toList with
          | true => rfl
          | false => exact absurd (K.bl_tri _ _ hq (by simpa using hlt)) (hn _ List.mem_cons_self)
      · show x ∈ y.data.toList :: dat (insF r s) ↔ x ∈ y.data.toList :: dat r ∨ _
        rw [List.mem_cons, List.mem_cons, h2 x, or_assoc]
theorem add_spec (l : List ByteArray) (s : ByteArray) (h : (dat l).Pairwise LT') : (dat (addF l s)).Pairwise LT' ∧ ∀ x, x ∈ dat (addF l s) ↔ x ∈ dat l ∨ (x ≠ [] ∧ x = s.data.toList) := by
  unfold addF
  split
  · rename_i he
    rw [ByteArray.toList_eq] at he
    refine ⟨h, fun x => ⟨.inl, fun hx => ?_⟩⟩
    rcases hx with hx | ⟨hne, hx⟩
    · exact hx
    · exact absurd (by rw [hx]; simpa using he) hne
  · rename_i he
    rw [ByteArray.toList_eq] at he
    have hsne : s.data.toList ≠ [] := by intro e; simp [e] at he
    split
    · rename_i hl
      obtain ⟨y, hy, hys⟩ := List.any_eq_true.1 hl
      rw [ByteArray.toList_eq, ByteArray.toList_eq] at hys
      refine ⟨h, fun x => ⟨.inl, fun hx => ?_⟩⟩
      rcases hx with hx | ⟨hne, hx⟩
      · exact hx
      · exact List.mem_map.2 ⟨y, hy, by rw [hx]; exact eq_of_beq hys⟩
    · rename_i hl
      have hn : ∀ x ∈ dat l, x ≠ s.data.toList := fun x hx e => by
        obtain ⟨y, hy, rfl⟩ := List.mem_map.1 hx
        exact hl (List.any_eq_true.2 ⟨y, hy, by rw [ByteArray.toList_eq, ByteArray.toList_eq, e]; simp⟩)
      obtain ⟨h1, h2⟩ := ins_spec l s h hn
      refine ⟨h1, fun x => ?_⟩
      rw [h2 x]
      constructor
      · rintro (hx | hx)
        · exact .inl hx
        · exact .inr ⟨by rw [hx]; exact hsne, hx⟩
      · rintro (hx | ⟨_, hx⟩)
        · exact .inl hx
        · exact .inr hx
theorem rbounds_spec (l : List Rng) : (dat (rboundsF l)).Pairwise LT' ∧ ∀ x, x ∈ dat (rboundsF l) ↔ Has l x := by
  have key : ∀ (l : List Rng) (o : List ByteArray), (dat o).Pairwise LT' → (dat (l.foldl (fun o r => addF (addF o r.f) r.t) o)).Pairwise LT' ∧ ∀ x, x ∈ dat (l.foldl (fun o r => addF (addF o r.f) r.t) o) ↔ x ∈ dat o ∨ Has l x := by
    intro l
    induction l with
    | nil => intro o h; exact ⟨h, fun x => by simp [Has]⟩
    | cons r t ih =>
      intro o h
      obtain ⟨a1, a2⟩ := add_spec o r.f h
      obtain ⟨b1, b2⟩ := add_spec _ r.t a1
      obtain ⟨c1, c2⟩ := ih _ b1
      refine ⟨c1, fun x => ?_⟩
      simp only [List.foldl_cons]
      rw [c2 x, b2 x, a2 x]
      unfold Has
      constructor
      · rintro (((h1 | ⟨h2, h3⟩) | ⟨h2, h3⟩) | ⟨h2, q, hq, h3⟩)
        · exact .inl h1
        · exact .inr ⟨h2, r, List.mem_cons_self, .inl h3⟩
        · exact .inr ⟨h2, r, List.mem_cons_self, .inr h3⟩
        · exact .inr ⟨h2, q, List.mem_cons_of_mem _ hq, h3⟩
      · rintro (h1 | ⟨h2, q, hq, h3⟩)
        · exact .inl (.inl (.inl h1))
        · rcases List.mem_cons.1 hq with rfl | hq
          · rcases h3 with h3 | h3
            · exact .inl (.inl (.inr ⟨h2, h3⟩))
            · exact .inl (.inr ⟨h2, h3⟩)
          · exact .inr ⟨h2, q, hq, h3⟩
  have := key l [] (by simp [dat])
  refine ⟨this.1, fun x => ?_⟩
  rw [rboundsF, this.2 x]
  simp [dat]
theorem sameS_of_dat : ∀ (l m : List ByteArray), dat l = dat m → sameS l m = true
  | [], [], _ => rfl
  | [], _ :: _, h => by simp [dat] at h
  | _ :: _, [], h => by simp [dat] at h
  | a :: l, b :: m, h => by
    simp only [dat, List.map_cons, List.cons.injEq] at h
    simp only [sameS, Bool.and_eq_true]
    exact ⟨by rw [ByteArray.toList_eq, ByteArray.toList_eq, h.1]; simp, sameS_of_dat l m h.2⟩
theorem bounds_same (l : List Rng) : sameS (boundsF l) (rboundsF l) = true :=
  sameS_of_dat _ _ (rising_unique _ _ (bounds_spec l).1 (rbounds_spec l).1 fun x => by rw [(bounds_spec l).2, (rbounds_spec l).2])
theorem bounds_len (l : List Rng) : (boundsF l).length ≤ 2 * l.length := by
  have h1 : (dat (boundsF l)) = dat (rboundsF l) := rising_unique _ _ (bounds_spec l).1 (rbounds_spec l).1 fun x => by rw [(bounds_spec l).2, (rbounds_spec l).2]
  have := congrArg List.length h1
  simp [dat] at this
  rw [this]
  exact rbounds_length l
end Go.Proofs.Ytfalbocgnmlncaa
