/- Parts, plans and gains of rows that fit: plain. -/
import Derived.Test.YtfalbocgnmlncaaERw
set_option linter.unusedSimpArgs false
set_option linter.unusedVariables false
namespace Go.Proofs.Ytfalbocgnmlncaa
open Go.RowKit A R
/-! ### bounds that rise -/
theorem data_ne {s : ByteArray} : s.data.toList ≠ [] ↔ s.toList.isEmpty = false := by
  rw [ByteArray.toList_eq]
  cases s.data.toList <;> simp
theorem rise_get {ss : List ByteArray} (hr : (dat ss).Pairwise LT') {i j : Nat} (hi : i < ss.length) (hj : j < ss.length) (h : i < j) : Op.bytesLess ss[i].toList ss[j].toList = true := by
  have := List.pairwise_iff_getElem.1 hr i j (by simpa using hi) (by simpa using hj) h
  simpa [dat, ByteArray.toList_eq, LT'] using this
/-- Bounds: they rise, and none is empty. -/
structure Bds (ss : List ByteArray) : Prop where
  rise : (dat ss).Pairwise LT'
  some : ∀ s ∈ ss, s.toList.isEmpty = false
theorem bounds_bds (l : List Rng) : Bds (boundsF l) := by
  obtain ⟨h1, h2⟩ := bounds_spec l
  exact ⟨h1, fun s hs => data_ne.1 ((h2 _).1 (List.mem_map.2 ⟨s, hs, rfl⟩)).1⟩
theorem atF_succ {ss : List ByteArray} {j : Nat} (hj : j < ss.length) : T.atF ss (j + 1) = ss[j] := by simp [T.atF, hj]
theorem empty_less {b : List UInt8} (h : b.isEmpty = false) : Op.bytesLess [] b = true := by
  cases b with
  | nil => cases h
  | cons => simp [Op.bytesLess]
/-- The bound ahead of the j-th one is below it. -/
theorem Bds.at_lt {ss : List ByteArray} (h : Bds ss) {i j : Nat} (hi : i < ss.length) (hj : j ≤ i) : Op.bytesLess (T.atF ss j).toList ss[i].toList = true := by
  cases j with
  | zero => show Op.bytesLess (⟨#[]⟩ : ByteArray).toList _ = true; rw [K.empty_list]; exact empty_less (h.some _ (List.getElem_mem hi))
  | succ j => rw [atF_succ (by omega)]; exact rise_get h.rise _ hi (by omega)
theorem Bds.at_ge {ss : List ByteArray} (h : Bds ss) {i j : Nat} (hi : i < ss.length) (hij : i < j) (hj : j ≤ ss.length) : K.le ss[i].toList (T.atF ss j).toList := by
  obtain ⟨j, rfl⟩ : ∃ m, j = m + 1 := ⟨j - 1, by omega⟩
  rw [atF_succ (by omega)]
  rcases Nat.lt_or_ge i j with h2 | h2
  · exact K.le_of_lt (rise_get h.rise hi (by omega) h2)
  · obtain rfl : i = j := by omega
    exact K.bl_irrefl _
/-- Within a part, a text stands to each bound as the part's beginning does. -/
theorem Bds.cut {ss : List ByteArray} (h : Bds ss) {j : Nat} (hj : j ≤ ss.length) {key : ByteArray} (hk : K.hasB (T.atF ss j) (ss[j]?.getD ⟨#[]⟩) key = true) {b : ByteArray} (hb : b ∈ ss) : Op.bytesLess key.toList b.toList = Op.bytesLess (T.atF ss j).toList b.toList := by
  obtain ⟨i, hi, rfl⟩ := List.getElem_of_mem hb
  unfold K.hasB at hk
  simp only [Bool.and_eq_true, Bool.not_eq_true', Bool.or_eq_true] at hk
  rcases Nat.lt_or_ge i j with h2 | h2
  · have hg := h.at_ge hi h2 hj
    rw [hg]
    exact K.le_trans hg hk.1
  · rw [h.at_lt hi h2]
    have hjl : j < ss.length := by omega
    simp only [hjl, List.getElem?_eq_getElem, Option.getD_some, h.some _ (List.getElem_mem hjl), Bool.false_eq_true, false_or] at hk
    rcases Nat.lt_or_ge j i with h3 | h3
    · exact K.bl_trans _ _ _ hk.2 (rise_get h.rise hjl hi h3)
    · obtain rfl : i = j := by omega
      exact hk.2
theorem mem_upto {ss : List ByteArray} {k : Nat} {r : Rng} (h : r ∈ T.upto ss k) : ∃ j, j < k ∧ r = ⟨T.atF ss j, ss[j]?.getD ⟨#[]⟩⟩ := by
  unfold T.upto at h
  obtain ⟨j, h1, rfl⟩ := List.mem_map.1 h
  exact ⟨j, List.mem_range.1 h1, rfl⟩
theorem Bds.upto_chn {ss : List ByteArray} (h : Bds ss) (hm : ∀ s ∈ ss, K.mayB s = true) : ∀ k, k ≤ ss.length → Chn (T.upto ss k) (T.atF ss k)
  | 0, _ => .nil
  | k + 1, hk => by
    have hk' : k < ss.length := by omega
    rw [T.upto_succ, atF_succ hk']
    have e : ss[k]?.getD ⟨#[]⟩ = ss[k] := by simp [hk']
    rw [e]
    exact .snoc (h.upto_chn hm k (by omega)) (hm _ (List.getElem_mem hk')) (h.at_lt hk' (Nat.le_refl _))
theorem Bds.parts_chn {ss : List ByteArray} (h : Bds ss) (hm : ∀ s ∈ ss, K.mayB s = true) : Chn (T.upto ss ss.length) (T.atF ss ss.length) ∧ T.parts ss = T.upto ss ss.length ++ [endR (T.atF ss ss.length)] :=
  ⟨h.upto_chn hm _ (Nat.le_refl _), T.parts_eq ss⟩
/-! ### rows -/
theorem whole_good {at' : ByteArray} {fst : Bool} : ∀ {l : List Rng}, wholeF at' fst l = true → ∀ r ∈ l, K.goodB r.f r.t = true
  | [], _, r, h => by cases h
  | x :: l, h, r, hr => by
    simp only [wholeF, Bool.and_eq_true] at h
    rcases List.mem_cons.1 hr with rfl | hr
    · exact h.1
    · exact whole_good h.2.2.2 r hr
theorem good_may {f t : ByteArray} (h : K.goodB f t = true) : K.mayB f = true ∧ K.mayB t = true := by
  unfold K.goodB at h
  simp only [Bool.and_eq_true] at h
  exact ⟨by first | exact h.1.1 | exact h.1, by first | exact h.1.2 | exact h.2.1⟩
theorem bounds_may {l : List Rng} (h : ∀ r ∈ l, K.goodB r.f r.t = true) : ∀ s ∈ boundsF l, K.mayB s = true := by
  intro s hs
  obtain ⟨_, r, hr, e⟩ := ((bounds_spec l).2 _).1 (List.mem_map.2 ⟨s, hs, rfl⟩)
  have hg := good_may (h r hr)
  rcases e with e | e
  · rw [data_inj e]; exact hg.1
  · rw [data_inj e]; exact hg.2
theorem bounds_mem {l : List Rng} {r : Rng} (h : r ∈ l) : (r.f.toList.isEmpty = true ∨ r.f ∈ boundsF l) ∧ (r.t.toList.isEmpty = true ∨ r.t ∈ boundsF l) := by
  have go : ∀ s : ByteArray, (s = r.f ∨ s = r.t) → s.toList.isEmpty = true ∨ s ∈ boundsF l := fun s hs => by
    cases he : s.toList.isEmpty with
    | true => exact .inl rfl
    | false =>
      refine .inr ?_
      have := ((bounds_spec l).2 s.data.toList).2 ⟨data_ne.2 he, r, h, by rcases hs with rfl | rfl; exact .inl rfl; exact .inr rfl⟩
      obtain ⟨s', h1, h2⟩ := List.mem_map.1 this
      rw [← data_inj h2]; exact h1
  exact ⟨go _ (.inl rfl), go _ (.inr rfl)⟩
theorem isEmpty_nil {l : List UInt8} (h : l.isEmpty = true) : l = [] := by cases l <;> simp_all
/-- Within a part, a text is in just those ranges that have the part's beginning. -/
theorem parts_same {l : List Rng} {p : Rng} (hp : p ∈ T.parts (boundsF l)) {key : ByteArray} (hk : hasR key p = true) {r : Rng} (hr : r ∈ l) : K.hasB r.f r.t key = K.hasB r.f r.t p.f := by
  obtain ⟨j, hj, rfl⟩ := mem_upto hp
  have hc : ∀ b : ByteArray, (b.toList.isEmpty = true ∨ b ∈ boundsF l) → Op.bytesLess key.toList b.toList = Op.bytesLess (T.atF (boundsF l) j).toList b.toList := fun b hb => by
    rcases hb with hb | hb
    · rw [isEmpty_nil hb, K.less_nil, K.less_nil]
    · exact (bounds_bds l).cut (by omega) hk hb
  obtain ⟨h1, h2⟩ := bounds_mem hr
  unfold K.hasB
  rw [hc _ h1, hc _ h2]
theorem find_congr {l : List Rng} {a b : ByteArray} (h : ∀ r ∈ l, K.hasB r.f r.t a = K.hasB r.f r.t b) : findR l a = findR l b := by
  have : ∀ l : List Rng, (∀ r ∈ l, K.hasB r.f r.t a = K.hasB r.f r.t b) → l.findIdx? (fun r => K.hasB r.f r.t a) = l.findIdx? (fun r => K.hasB r.f r.t b) := by
    intro l
    induction l with
    | nil => intro _; rfl
    | cons x r ih =>
      intro h
      rw [List.findIdx?_cons, List.findIdx?_cons, h x (by simp), ih fun y hy => h y (by simp [hy])]
  unfold findR idxF
  rw [this l h]
namespace T
theorem owners_same {c : SRow} {l : List Rng} (hl : ∀ r ∈ c.ranges, r ∈ l) {p : Rng} (hp : p ∈ parts (boundsF l)) {key : ByteArray} (hk : hasR key p = true) : owners c key = owners c p.f := by
  have := find_congr (l := c.ranges) fun r hr => parts_same hp hk (hl r hr)
  unfold owners
  rw [this]
/-- Two rows that fit, their ranges a chain each. -/
structure Two (c d : SRow) : Prop where
  fits : fits c d = true
  c : ∃ m a, Chn m a ∧ c.ranges = m ++ [endR a]
  d : ∃ m a, Chn m a ∧ d.ranges = m ++ [endR a]
theorem chn_good {l : List Rng} (h : ∃ m a, Chn m a ∧ l = m ++ [endR a]) : ∀ r ∈ l, K.goodB r.f r.t = true := by
  obtain ⟨m, a, h1, rfl⟩ := h
  have hw := h1.whole
  unfold whole at hw
  simp only [Bool.and_eq_true] at hw
  exact whole_good hw.2
theorem chn_find {l : List Rng} (h : ∃ m a, Chn m a ∧ l = m ++ [endR a]) (key : ByteArray) : ¬ findR l key < 0 := by
  obtain ⟨m, a, h1, rfl⟩ := h
  obtain ⟨i, _, h2, _⟩ := h1.find key
  rw [h2]; omega
section
variable {c d : SRow}
theorem Two.swap (h : Two c d) : Two d c := ⟨by have := h.fits; unfold T.fits at *; simp only [Bool.and_eq_true, decide_eq_true_eq] at *; exact ⟨⟨this.1.2, this.1.1⟩, this.2.symm⟩, h.d, h.c⟩
theorem Two.parts (h : Two c d) : partsF c d = T.parts (boundsF (c.ranges ++ d.ranges)) := by unfold partsF; rw [if_pos h.fits]
theorem Two.good (h : Two c d) : ∀ r ∈ c.ranges ++ d.ranges, K.goodB r.f r.t = true := fun r hr => by
  rcases List.mem_append.1 hr with hr | hr
  · exact chn_good h.c r hr
  · exact chn_good h.d r hr
theorem Two.chn (h : Two c d) : ∃ m a, Chn m a ∧ partsF c d = m ++ [endR a] := by
  obtain ⟨h1, h2⟩ := (bounds_bds (c.ranges ++ d.ranges)).parts_chn (bounds_may h.good)
  exact ⟨_, _, h1, by rw [h.parts, h2]⟩
theorem Two.okc (h : Two c d) : ok c = true ∧ ok d = true ∧ c.parents.length = d.parents.length := by
  have := h.fits
  unfold T.fits at this
  simp only [Bool.and_eq_true, decide_eq_true_eq] at this
  exact ⟨this.1.1, this.1.2, this.2⟩
theorem Two.ownc (h : Two c d) {p : Rng} (hp : p ∈ partsF c d) {key : ByteArray} (hk : hasR key p = true) : owners c key = owners c p.f :=
  owners_same (l := c.ranges ++ d.ranges) (fun r hr => List.mem_append.2 (.inl hr)) (by rw [← h.parts]; exact hp) hk
theorem Two.ownd (h : Two c d) {p : Rng} (hp : p ∈ partsF c d) {key : ByteArray} (hk : hasR key p = true) : owners d key = owners d p.f :=
  owners_same (l := c.ranges ++ d.ranges) (fun r hr => List.mem_append.2 (.inr hr)) (by rw [← h.parts]; exact hp) hk
theorem owners_pos {c : SRow} (ho : ok c = true) (hc : ∃ m a, Chn m a ∧ c.ranges = m ++ [endR a]) (key : ByteArray) : 1 ≤ owners c key := by
  obtain ⟨k, e1, hk, e2, e3, e4⟩ := shape_owner ho (chn_find hc key)
  omega
end
theorem some_bit : ∀ m, m < 64 → 1 ≤ m → ∃ s, s < 6 ∧ bit m (s : Nat) = true := by
  intro m h1 h2
  have : ∀ m : Fin 64, 1 ≤ m.1 → ∃ s : Fin 6, m.1 / 2 ^ s.1 % 2 = 1 := by decide
  obtain ⟨s, hs⟩ := this ⟨m, h1⟩ h2
  refine ⟨s.1, s.2, ?_⟩
  unfold bit
  simp only [Bool.and_eq_true, decide_eq_true_eq]
  exact ⟨⟨by omega, by have := s.2; omega⟩, by simpa using hs⟩
/-- The least site of some is one of them. -/
theorem firstF_is {m : Nat} (h : m < 64) (h1 : 1 ≤ m) : ∃ s : Nat, s < 6 ∧ firstF m = s ∧ bit m (s : Nat) = true := by
  obtain ⟨s, hs, hb⟩ := some_bit m h h1
  unfold firstF
  cases hf : (List.range 6).find? (fun s => bit m (s : Nat)) with
  | none => rw [List.find?_eq_none] at hf; exact absurd hb (by simpa using hf s (List.mem_range.2 hs))
  | some x => exact ⟨x, List.mem_range.1 (List.mem_of_find?_eq_some hf), rfl, by simpa using List.find?_some hf⟩
/-! ### moves -/
def mine (key : ByteArray) (s : Int) (m : Mv) : Bool := hasR key m.r && decide (m.to' = s)
def comes (c d : SRow) (key : ByteArray) (s : Int) : Bool := bit (owners d key) s && !bit (owners c key) s
theorem count_move (c d : SRow) (key : ByteArray) {s : Nat} (r : Rng) : ∀ n, s < n → (movesOf c d n r).countP (mine key s) = if hasR key r && gets c d r s then 1 else 0 := by
  have hz : ∀ n, n ≤ s → (movesOf c d n r).countP (mine key s) = 0 := by
    intro n hn
    rw [List.countP_eq_zero]
    intro m hm
    unfold movesOf at hm
    obtain ⟨x, h1, rfl⟩ := List.mem_map.1 hm
    have := List.mem_range.1 (List.mem_filter.1 h1).1
    simp [mine]
    intro _
    omega
  intro n hn
  induction n with
  | zero => omega
  | succ n ih =>
    rw [movesOf_succ, List.countP_append]
    rcases Nat.lt_or_ge s n with h | h
    · rw [ih h]
      have : (if gets c d r n = true then [(⟨n, firstF (owners c r.f), r⟩ : Mv)] else []).countP (mine key s) = 0 := by
        split
        · simp [mine]; intro _; omega
        · rfl
      rw [this]; rfl
    · obtain rfl : s = n := by omega
      rw [hz _ (Nat.le_refl _)]
      cases hg : gets c d r s <;> cases hh : hasR key r <;> simp [mine, hh]
theorem countP_bool {α : Type} (p : α → Bool) (x : α) : [x].countP p = if p x then 1 else 0 := by simp [List.countP_cons]
theorem count_plan (c d : SRow) (key : ByteArray) {s : Nat} {n : Nat} (hs : s < n) : ∀ l : List Rng, (planL c d n l).countP (mine key s) = l.countP fun r => hasR key r && gets c d r s
  | [] => rfl
  | r :: l => by
    have e : planL c d n (r :: l) = movesOf c d n r ++ planL c d n l := rfl
    rw [e, List.countP_append, count_move c d key r n hs, count_plan c d key hs l, List.countP_cons]
    cases (hasR key r && gets c d r s) <;> simp <;> omega
theorem Two.gets {c d : SRow} (h : Two c d) {p : Rng} (hp : p ∈ partsF c d) {key : ByteArray} (hk : hasR key p = true) (s : Nat) : T.gets c d p s = comes c d key s := by
  unfold T.gets comes
  rw [h.ownc hp hk, h.ownd hp hk]
theorem Two.count {c d : SRow} (h : Two c d) (key : ByteArray) {s : Nat} (hs : s < d.parents.length) : (planF c d).countP (mine key s) = if comes c d key s then 1 else 0 := by
  unfold planF
  rw [count_plan c d key hs]
  have e : (partsF c d).countP (fun r => hasR key r && T.gets c d r s) = (partsF c d).countP (fun r => hasR key r && comes c d key s) := by
    apply List.countP_congr
    intro r hr
    cases hk : hasR key r with
    | false => simp
    | true => rw [h.gets hr hk]
  rw [e]
  obtain ⟨m, a, h1, h2⟩ := h.chn
  cases hc : comes c d key s with
  | false => simp
  | true =>
    simp only [Bool.and_true, if_true]
    rw [h2]; exact h1.last key
/-- A move: where from, where to. -/
theorem Two.move {c d : SRow} (h : Two c d) {m : Mv} (hm : m ∈ planF c d) : m.r ∈ partsF c d ∧ ∃ s f : Nat, s < d.parents.length ∧ f < 6 ∧ m.to' = s ∧ m.fr = f ∧ T.gets c d m.r s = true ∧ bit (owners c m.r.f) (f : Nat) = true ∧ f ≠ s := by
  unfold planF planL at hm
  obtain ⟨r, hr, hm⟩ := List.mem_flatMap.1 hm
  unfold movesOf at hm
  obtain ⟨s, h1, rfl⟩ := List.mem_map.1 hm
  obtain ⟨h2, h3⟩ := List.mem_filter.1 h1
  obtain ⟨f, h4, h5, h6⟩ := firstF_is (owners_lt c r.f) (owners_pos h.okc.1 h.c r.f)
  refine ⟨hr, s, f, List.mem_range.1 h2, h4, rfl, h5, h3, h6, ?_⟩
  rintro rfl
  unfold T.gets at h3
  rw [h6] at h3
  simp at h3
theorem Two.from {c d : SRow} (h : Two c d) {m : Mv} (hm : m ∈ planF c d) {key : ByteArray} (hk : hasR key m.r = true) : bit (owners c key) m.fr = true := by
  obtain ⟨h1, s, f, _, _, _, h5, _, h7, _⟩ := h.move hm
  rw [h.ownc h1 hk, h5]; exact h7
theorem plan_none {c d : SRow} (h : ¬ fits c d = true) : planF c d = [] := by
  unfold planF partsF
  rw [if_neg h]; rfl
theorem plan_self (c : SRow) : planF c c = [] := by
  unfold planF planL
  rw [List.flatMap_eq_nil_iff]
  intro r _
  unfold movesOf
  rw [List.map_eq_nil_iff, List.filter_eq_nil_iff]
  intro s _
  unfold T.gets
  simp
/-! ### gains -/
theorem gains_moves (c d : SRow) {n s : Nat} (hs : s < n) (r : Rng) : ((movesOf c d n r).filter fun m => decide (m.to' = (s : Int))).map (·.r) = if gets c d r s then [r] else [] := by
  have hz : ∀ n, n ≤ s → ((movesOf c d n r).filter fun m => decide (m.to' = (s : Int))) = [] := by
    intro n hn
    rw [List.filter_eq_nil_iff]
    intro m hm
    unfold movesOf at hm
    obtain ⟨x, h1, rfl⟩ := List.mem_map.1 hm
    have := List.mem_range.1 (List.mem_filter.1 h1).1
    simp; omega
  induction n with
  | zero => omega
  | succ n ih =>
    rw [movesOf_succ, List.filter_append, List.map_append]
    rcases Nat.lt_or_ge s n with h | h
    · rw [ih h]
      have : ((if gets c d r n = true then [(⟨n, firstF (owners c r.f), r⟩ : Mv)] else []).filter fun m => decide (m.to' = (s : Int))) = [] := by
        split
        · rw [List.filter_eq_nil_iff]; intro m hm; simp at hm; subst hm; simp; omega
        · rfl
      rw [this]; simp
    · obtain rfl : s = n := by omega
      rw [hz _ (Nat.le_refl _)]
      cases hg : gets c d r s <;> simp
theorem gains_parts (c d : SRow) {n s : Nat} (hs : s < n) : ∀ l : List Rng, gainsL (planL c d n l) s = l.filter fun r => gets c d r s
  | [] => rfl
  | r :: l => by
    have e : planL c d n (r :: l) = movesOf c d n r ++ planL c d n l := rfl
    have ih := gains_parts c d hs l
    unfold gainsL at *
    rw [e, List.filter_append, List.map_append, gains_moves c d hs r, ih, List.filter_cons]
    cases gets c d r s <;> simp
theorem gains_find (l : List Mv) (s : Int) (key : ByteArray) : decide (0 ≤ findR (gainsL l s) key) = decide (0 < l.countP (mine key s)) := by
  have h1 : (0 ≤ findR (gainsL l s) key) ↔ ∃ r ∈ gainsL l s, hasR key r = true := by
    unfold findR idxF
    cases hf : (gainsL l s).findIdx? (fun r => K.hasB r.f r.t key) with
    | none =>
      rw [List.findIdx?_eq_none_iff] at hf
      refine ⟨fun h => by simp at h, fun ⟨r, h1, h2⟩ => ?_⟩
      have := hf r h1
      unfold hasR at h2
      simp_all
    | some i =>
      rw [List.findIdx?_eq_some_iff_getElem] at hf
      obtain ⟨hi, h2, _⟩ := hf
      exact ⟨fun _ => ⟨_, List.getElem_mem hi, h2⟩, fun _ => by simp⟩
  apply decide_eq_decide.2
  rw [h1, List.countP_pos_iff]
  unfold gainsL mine
  constructor
  · rintro ⟨r, hr, hk⟩
    obtain ⟨m, hm, rfl⟩ := List.mem_map.1 hr
    obtain ⟨h2, h3⟩ := List.mem_filter.1 hm
    exact ⟨m, h2, by simp_all⟩
  · rintro ⟨m, hm, h2⟩
    simp only [Bool.and_eq_true] at h2
    exact ⟨m.r, List.mem_map.2 ⟨m, List.mem_filter.2 ⟨hm, h2.2⟩, rfl⟩, h2.1⟩
theorem Two.gains {c d : SRow} (h : Two c d) (key : ByteArray) {s : Nat} (hs : s < d.parents.length) : decide (0 ≤ findR (gainsL (planF c d) s) key) = comes c d key s := by
  rw [gains_find, h.count key hs]
  cases comes c d key s <;> simp
/-- How many moves go to sites below. -/
def upTo (l : List Mv) (s : Nat) : Nat := l.countP fun m => decide ((0 : Int) ≤ m.to' ∧ m.to' < (s : Int))
theorem upTo_zero (l : List Mv) : upTo l 0 = 0 := by
  unfold upTo
  rw [List.countP_eq_zero]
  intro m _
  simp
theorem upTo_succ (l : List Mv) (s : Nat) : upTo l (s + 1) = upTo l s + (gainsL l s).length := by
  unfold upTo gainsL
  rw [List.length_map, ← List.countP_eq_length_filter]
  induction l with
  | nil => rfl
  | cons m l ih =>
    simp only [List.countP_cons, ih]
    by_cases h1 : m.to' = (s : Int)
    · rw [if_pos (by simp; omega), if_neg (by simp; omega), if_pos (by simpa using h1)]; omega
    · rw [if_neg (c := decide (m.to' = (s : Int)) = true) (by simpa using h1)]
      by_cases h2 : 0 ≤ m.to' ∧ m.to' < s
      · rw [if_pos (by simp; omega), if_pos (by simp; omega)]; omega
      · rw [if_neg (by simp; omega), if_neg (by simp; omega)]; omega
theorem upTo_all {c d : SRow} (h : Two c d) : upTo (planF c d) 6 = (planF c d).length := by
  unfold upTo
  rw [List.countP_eq_length]
  intro m hm
  obtain ⟨_, s, f, h1, _, h2, _⟩ := h.move hm
  have := (S.shape_facts (ok_facts h.okc.2.1).1).2.1
  simp; omega
theorem upTo_le (l : List Mv) (s : Nat) : upTo l s ≤ l.length := by unfold upTo; exact List.countP_le_length
/-- Of gains: they rise, and don't meet. -/
def ApartR (x y : Rng) : Prop := (x.f.toList == y.f.toList) = false ∧ (y.f.toList == x.f.toList) = false ∧ Op.bytesLess y.f.toList x.t.toList = false
theorem parts_apart (l : List Rng) : (parts (boundsF l)).Pairwise ApartR := by
  have h := bounds_bds l
  generalize boundsF l = ss at h
  unfold parts upto
  rw [List.pairwise_map, List.pairwise_iff_getElem]
  intro i j hi hj hij
  simp only [List.length_range] at hi hj
  simp only [List.getElem_range]
  have hi' : i < ss.length := by omega
  have e : ss[i]?.getD ⟨#[]⟩ = ss[i] := by simp [hi']
  have h1 := h.at_lt hi' (Nat.le_refl i)
  have h2 := h.at_ge hi' hij (by omega)
  have h3 := K.lt_of_lt_le h1 h2
  have hne : (atF ss i).toList ≠ (atF ss j).toList := fun he => by rw [he, K.bl_irrefl] at h3; cases h3
  refine ⟨by simpa using hne, by simpa using hne.symm, ?_⟩
  rw [e]; exact h2
theorem Two.gains_apart {c d : SRow} (h : Two c d) (s : Nat) : (gainsL (planF c d) s).Pairwise ApartR := by
  rcases Nat.lt_or_ge s d.parents.length with hs | hs
  · unfold planF
    rw [gains_parts c d hs, h.parts]
    exact (parts_apart _).sublist List.filter_sublist
  · have : gainsL (planF c d) s = [] := by
      unfold gainsL
      rw [List.map_eq_nil_iff, List.filter_eq_nil_iff]
      intro m hm
      obtain ⟨_, s', f, h1, _, h2, _⟩ := h.move hm
      simp; omega
    rw [this]; exact .nil
end T
namespace ESpec
theorem two (q : ESpec) (h : q.odd = false) : T.Two (q.mkR 0) (q.mkR 1) := by
  refine ⟨?_, ⟨_, _, chn _, rfl⟩, ⟨_, _, chn _, rfl⟩⟩
  unfold T.fits
  rw [ok, ok]
  simp [mkR, pars, h]
theorem odd_fits (q : ESpec) (h : q.odd = true) : ¬ T.fits (q.mkR 0) (q.mkR 1) = true := by
  unfold T.fits
  simp [mkR, pars, h]
end ESpec
end Go.Proofs.Ytfalbocgnmlncaa
