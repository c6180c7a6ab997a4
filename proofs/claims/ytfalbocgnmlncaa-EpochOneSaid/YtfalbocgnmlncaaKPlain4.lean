import Derived.Test.YtfalbocgnmlncaaKPlain3
set_option linter.unusedSimpArgs false
set_option linter.unusedVariables false
namespace Go.Proofs.Ytfalbocgnmlncaa.K
open Go
theorem good_iff {f t : ByteArray} (hf : mayB f = true) (ht : mayB t = true) : goodB f t = (t.toList.isEmpty || Op.bytesLess f.toList t.toList) := by simp [goodB, hf, ht]
/-- what KeysMeet says, of two ranges whose texts may be -/
def meetLaw (f t f' t' : ByteArray) : Bool :=
  if !goodB f t || !goodB f' t' then !meetB f t f' t' && ((!t.toList.isEmpty && !Op.bytesLess f.toList t.toList) || (!t'.toList.isEmpty && !Op.bytesLess f'.toList t'.toList))
  else meetB f t f' t' == (hasB f t f' || hasB f' t' f) && meetB f' t' f t == (hasB f t f' || hasB f' t' f) && meetB f t f t
theorem lt_asymm {a b : List UInt8} (h : Op.bytesLess a b = true) : Op.bytesLess b a = false := le_of_lt h
theorem meet_law {f t f' t' : ByteArray} (hf : mayB f = true) (ht : mayB t = true) (hf' : mayB f' = true) (ht' : mayB t' = true) : meetLaw f t f' t' = true := by
  unfold meetLaw meetB
  rw [good_iff hf ht, good_iff hf' ht']
  unfold hasB
  cases e1 : t.toList.isEmpty <;> cases e2 : t'.toList.isEmpty <;> cases l1 : Op.bytesLess f.toList t.toList <;> cases l2 : Op.bytesLess f'.toList t'.toList <;>
    cases a1 : Op.bytesLess f.toList f'.toList <;> cases a2 : Op.bytesLess f'.toList f.toList <;> cases b1 : Op.bytesLess f.toList t'.toList <;> cases b2 : Op.bytesLess f'.toList t.toList <;> simp
  all_goals first
    | (have := lt_asymm a1; rw [a2] at this; cases this; done)
    | (have := lt_of_le_lt (a := f.toList) (b := f'.toList) a2 l2; rw [b1] at this; cases this; done)
    | (have := lt_of_le_lt (a := f'.toList) (b := f.toList) a1 l1; rw [b2] at this; cases this; done)
    | skip
theorem may_nil : mayB ⟨#[]⟩ = true := by decide +kernel
theorem may_word (n : Int) : mayB (word n) = true := by simp [mayB, word_check]
theorem size_word (n : Int) : (word n).size ≤ 9223372036854775807 := by have := (word_spec n).2.2; omega
theorem size_nil : (⟨#[]⟩ : ByteArray).size ≤ 9223372036854775807 := by decide
end Go.Proofs.Ytfalbocgnmlncaa.K
