/- KeysOne: chains of ranges; plain. -/
import Derived.Test.YtfalbocgnmlncaaKOrd
import Derived.Test.YtfalbocgnmlncaaKPlain4
set_option linter.unusedSimpArgs false
set_option linter.unusedVariables false
namespace Go.Proofs.Ytfalbocgnmlncaa
open R
/-- Ranges that stand end to end, from nothing to `a`. -/
inductive Chn : List Rng → ByteArray → Prop where
  | nil : Chn [] ⟨#[]⟩
  | snoc {m : List Rng} {a w : ByteArray} : Chn m a → K.mayB w = true → Op.bytesLess a.toList w.toList = true → Chn (m ++ [⟨a, w⟩]) w
def endR (a : ByteArray) : Rng := ⟨a, ⟨#[]⟩⟩
def hasR (key : ByteArray) (r : Rng) : Bool := K.hasB r.f r.t key
def metR (a b : Rng) : Bool := K.meetB a.f a.t b.f b.t
theorem Chn.may {m : List Rng} {a : ByteArray} (h : Chn m a) : K.mayB a = true := by
  cases h with
  | nil => exact K.may_nil
  | snoc _ hw _ => exact hw
theorem less_ne {a b : List UInt8} (h : Op.bytesLess a b = true) : b.isEmpty = false := by
  cases b with
  | nil => rw [K.less_nil] at h; cases h
  | cons => rfl
theorem Chn.ends {m : List Rng} {a : ByteArray} (h : Chn m a) : a.toList.isEmpty = m.isEmpty := by
  cases h with
  | nil => rw [K.empty_list]; rfl
  | snoc _ _ hl => rw [less_ne hl]; simp
theorem Chn.count {m : List Rng} {a : ByteArray} (key : ByteArray) (h : Chn m a) : m.countP (hasR key) = if Op.bytesLess key.toList a.toList then 1 else 0 := by
  induction h with
  | nil => rw [K.empty_list, K.less_nil]; rfl
  | snoc h hw hl ih =>
    rename_i m a w
    rw [List.countP_append, ih]
    simp only [List.countP_singleton, hasR, K.hasB, less_ne hl, Bool.false_or]
    cases h1 : Op.bytesLess key.toList a.toList <;> cases h2 : Op.bytesLess key.toList w.toList <;> simp
    exact absurd (K.bl_trans _ _ _ h1 hl) (by rw [h2]; simp)
theorem Chn.last {m : List Rng} {a : ByteArray} (key : ByteArray) (h : Chn m a) : (m ++ [endR a]).countP (hasR key) = 1 := by
  rw [List.countP_append, h.count key]
  simp only [List.countP_singleton, endR, hasR, K.hasB, K.empty_list]
  cases Op.bytesLess key.toList a.toList <;> simp
theorem Chn.lows {m : List Rng} {a : ByteArray} (h : Chn m a) : ∀ x ∈ m, x.t.toList.isEmpty = false ∧ (x.t.toList = a.toList ∨ Op.bytesLess x.t.toList a.toList = true) := by
  induction h with
  | nil => intro x hx; cases hx
  | snoc h hw hl ih =>
    intro x hx
    rcases List.mem_append.1 hx with hx | hx
    · obtain ⟨h1, h2⟩ := ih x hx
      refine ⟨h1, .inr ?_⟩
      rcases h2 with h2 | h2
      · rw [h2]; exact hl
      · exact K.bl_trans _ _ _ h2 hl
    · simp at hx; subst hx
      exact ⟨less_ne hl, .inl rfl⟩
theorem no_meet {x : Rng} {a t : ByteArray} (h1 : x.t.toList.isEmpty = false) (h2 : x.t.toList = a.toList ∨ Op.bytesLess x.t.toList a.toList = true) : metR ⟨a, t⟩ x = false := by
  have : Op.bytesLess a.toList x.t.toList = false := by
    rcases h2 with h2 | h2
    · rw [h2]; exact K.bl_irrefl _
    · exact K.lt_asymm h2
  simp [metR, K.meetB, h1, this]
theorem Chn.apart' {m : List Rng} {a : ByteArray} (h : Chn m a) : m.Pairwise fun x y => metR y x = false := by
  induction h with
  | nil => exact .nil
  | snoc h hw hl ih =>
    rw [List.pairwise_append]
    refine ⟨ih, by simp, fun x hx y hy => ?_⟩
    simp at hy; subst hy
    exact no_meet (h.lows x hx).1 (h.lows x hx).2
theorem Chn.apart {m : List Rng} {a : ByteArray} (h : Chn m a) : (m ++ [endR a]).Pairwise fun x y => metR y x = false := by
  rw [List.pairwise_append]
  refine ⟨h.apart', by simp, fun x hx y hy => ?_⟩
  simp at hy; subst hy
  exact no_meet (h.lows x hx).1 (h.lows x hx).2
theorem Chn.wholes {m : List Rng} {a : ByteArray} (h : Chn m a) : ∀ rest, wholeF ⟨#[]⟩ true (m ++ rest) = wholeF a m.isEmpty rest := by
  induction h with
  | nil => intro rest; rfl
  | snoc h hw hl ih =>
    rename_i m a w
    intro rest
    rw [List.append_assoc, ih]
    have hg : K.goodB a w = true := by rw [K.good_iff h.may hw, hl]; simp
    have he : (m.isEmpty || !a.toList.isEmpty) = true := by rw [h.ends]; cases m.isEmpty <;> rfl
    simp only [List.cons_append, List.nil_append, wholeF, hg, he, beq_self_eq_true, Bool.true_and]
    congr 1
    simp
theorem Chn.whole {m : List Rng} {a : ByteArray} (h : Chn m a) : Go.Proofs.Ytfalbocgnmlncaa.whole (m ++ [endR a]) = true := by
  unfold Go.Proofs.Ytfalbocgnmlncaa.whole
  rw [h.wholes]
  have hg : K.goodB a ⟨#[]⟩ = true := by rw [K.good_iff h.may K.may_nil, K.empty_list]; rfl
  have he : (m.isEmpty || !a.toList.isEmpty) = true := by rw [h.ends]; cases m.isEmpty <;> rfl
  simp only [endR, wholeF, hg, he, beq_self_eq_true, Bool.true_and, K.empty_list]
  simp
theorem Chn.find {m : List Rng} {a : ByteArray} (key : ByteArray) (h : Chn m a) : ∃ i : Nat, ∃ hi : i < (m ++ [endR a]).length, findR (m ++ [endR a]) key = i ∧ hasR key (m ++ [endR a])[i] = true := by
  have hc := h.last key
  obtain ⟨r, hr⟩ : ∃ r, r = m ++ [endR a] := ⟨_, rfl⟩
  rw [← hr] at hc ⊢
  unfold findR idxF
  cases hf : r.findIdx? (fun r => K.hasB r.f r.t key) with
  | none =>
    rw [List.findIdx?_eq_none_iff] at hf
    have : r.countP (hasR key) = 0 := List.countP_eq_zero.2 fun x hx => by rw [show hasR key x = false from hf x hx]; simp
    omega
  | some i =>
    rw [List.findIdx?_eq_some_iff_getElem] at hf
    obtain ⟨hi, h1, _⟩ := hf
    exact ⟨i, hi, rfl, h1⟩
theorem Chn.has {m : List Rng} {a : ByteArray} (h : Chn m a) : (m.map fun x => x.t.data.toList).Pairwise LT' ∧ (∀ y ∈ m, y.f.data.toList = [] ∨ y.f.data.toList ∈ m.map fun x => x.t.data.toList) ∧ (a.data.toList = [] ∨ a.data.toList ∈ m.map fun x => x.t.data.toList) := by
  induction h with
  | nil => exact ⟨.nil, (by intro y hy; cases hy), .inl rfl⟩
  | snoc h hw hl ih =>
    rename_i m a w
    obtain ⟨h1, h2, h3⟩ := ih
    refine ⟨?_, ?_, .inr (by simp)⟩
    · rw [List.map_append, List.pairwise_append]
      refine ⟨h1, by simp, fun x hx y hy => ?_⟩
      simp at hy; subst hy
      obtain ⟨z, hz, rfl⟩ := List.mem_map.1 hx
      have := h.lows z hz
      unfold LT'
      rw [← ByteArray.toList_eq, ← ByteArray.toList_eq]
      rcases this.2 with e | e
      · rw [e]; exact hl
      · exact K.bl_trans _ _ _ e hl
    · intro y hy
      rw [List.map_append]
      rcases List.mem_append.1 hy with hy | hy
      · exact (h2 y hy).imp id fun h => List.mem_append_left _ h
      · simp at hy; subst hy
        exact h3.imp id fun h => List.mem_append_left _ h
theorem Chn.bounds {m : List Rng} {a : ByteArray} (h : Chn m a) : (boundsF (m ++ [endR a])).length = m.length := by
  obtain ⟨h1, h2, h3⟩ := h.has
  have := rising_unique _ _ (bounds_spec (m ++ [endR a])).1 h1 fun x => by
    rw [(bounds_spec _).2]
    constructor
    · rintro ⟨hne, r, hr, hx⟩
      rcases List.mem_append.1 hr with hr | hr
      · rcases hx with rfl | rfl
        · exact (h2 r hr).resolve_left hne
        · exact List.mem_map.2 ⟨r, hr, rfl⟩
      · simp at hr; subst hr
        rcases hx with rfl | rfl
        · exact h3.resolve_left hne
        · exact absurd rfl hne
    · intro hx
      obtain ⟨z, hz, rfl⟩ := List.mem_map.1 hx
      refine ⟨fun e => ?_, z, List.mem_append_left _ hz, .inr rfl⟩
      have := (h.lows z hz).1
      rw [ByteArray.toList_eq, e] at this
      cases this
  have := congrArg List.length this
  simpa [dat] using this
theorem count_take {r : List Rng} {i : Nat} (hi : i < r.length) (key : ByteArray) : (r.take (i + 1)).countP (hasR key) = (r.take i).countP (hasR key) + (if hasR key r[i] then 1 else 0) := by
  rw [List.take_succ_eq_append_getElem hi, List.countP_append, List.countP_singleton]
end Go.Proofs.Ytfalbocgnmlncaa
