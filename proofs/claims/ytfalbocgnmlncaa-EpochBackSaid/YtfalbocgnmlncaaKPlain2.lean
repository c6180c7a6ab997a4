import Derived.Test.YtfalbocgnmlncaaKPlain
namespace Go.Proofs.Ytfalbocgnmlncaa.K
open Go
/-! ### the edges of a range -/
theorem less_nil (a : List UInt8) : Op.bytesLess a [] = false := by cases a <;> rfl
theorem nil_less {a : List UInt8} (h : a.isEmpty = false) : Op.bytesLess [] a = true := by cases a with | nil => simp at h | cons x r => rfl
theorem empty_list : (⟨#[]⟩ : ByteArray).toList = [] := by decide +kernel
theorem has_all (k : ByteArray) : hasB ⟨#[]⟩ ⟨#[]⟩ k = true := by simp [hasB, less_nil]
theorem has_from {f t : ByteArray} (h : goodB f t = true) : hasB f t f = true := by
  unfold goodB at h
  simp only [Bool.and_eq_true] at h
  simp [hasB, bl_irrefl, h.2]
theorem has_to {f t : ByteArray} (h : t.toList.isEmpty = false) : hasB f t t = false := by simp [hasB, bl_irrefl, h]
theorem has_ge {f t k : ByteArray} (h : hasB f t k = true) : Op.bytesLess k.toList f.toList = false := by
  unfold hasB at h
  simp only [Bool.and_eq_true, Bool.not_eq_true'] at h
  exact h.1
theorem meet_all {f t : ByteArray} (h : goodB f t = true) : meetB f t ⟨#[]⟩ ⟨#[]⟩ = true := by
  have e : goodB ⟨#[]⟩ ⟨#[]⟩ = true := by decide +kernel
  unfold meetB
  rw [h, e, empty_list]
  cases ht : t.toList.isEmpty with
  | true => rfl
  | false => simp [nil_less ht]
end Go.Proofs.Ytfalbocgnmlncaa.K
