import Derived.Test.YtfalbocgnmlncaaKPlain2
import Derived.Laws.BitsLemmas
set_option linter.unusedSimpArgs false
set_option linter.unusedVariables false
namespace Go.Proofs.Ytfalbocgnmlncaa.K
open Go
theorem i64_and4095 (n : Int) : bits .and .i64 n 4095 = n % 4096 := by
  have h : (BitVec.ofInt 64 4095).toNat = 2 ^ 12 - 1 := by decide
  have key : (BitVec.ofInt 64 n &&& BitVec.ofInt 64 4095).toNat = (n % ((2 ^ 64 : Nat) : Int)).toNat % 2 ^ 12 := by
    rw [BitVec.toNat_and, BitVec.toNat_ofInt, h, Nat.and_two_pow_sub_one_eq_mod]
  show IntKind.i64.wrap ((BitVec.ofInt 64 n &&& BitVec.ofInt 64 4095).toNat : Nat) = n % 4096
  rw [key, IntKind.wrap_i64]
  omega
def wordL : Nat → Nat → List UInt8 → List UInt8
  | 0, _, acc => acc
  | f + 1, k, acc => if 0 < k then wordL f (k / 8) (acc ++ [97 + UInt8.ofNat (k % 8)]) else acc
def word (n : Int) : ByteArray := ⟨(wordL 4 (n % 4096).toNat []).toArray⟩ ++ ⟨#[107]⟩
def Low (l : List UInt8) : Prop := ∀ c ∈ l, 33 ≤ c.toNat ∧ c.toNat < 128
/-- where the loop of word stands -/
structure WAt (n : Int) (k : Nat) (acc : List UInt8) : Prop where
  ex : ∃ f, k < 8 ^ f ∧ acc.length + f ≤ 4 ∧ wordL f k acc = wordL 4 (n % 4096).toNat []
  low : Low acc
theorem WAt.start (n : Int) : WAt n (n % 4096).toNat [] := ⟨⟨4, by omega, by simp, rfl⟩, fun c h => by cases h⟩
theorem WAt.next {n : Int} {k : Nat} {acc : List UInt8} (h : WAt n k acc) (hk : 0 < k) : WAt n (k / 8) (acc ++ [97 + UInt8.ofNat (k % 8)]) := by
  obtain ⟨⟨f, h1, h2, h3⟩, h4⟩ := h
  cases f with
  | zero => simp at h1; omega
  | succ f =>
    refine ⟨⟨f, ?_, by simp; omega, ?_⟩, fun c hc => ?_⟩
    · rw [Nat.pow_succ] at h1; omega
    · rw [← h3]; simp [wordL, hk]
    · rcases List.mem_append.1 hc with hc | hc
      · exact h4 c hc
      · simp at hc
        subst hc
        have : (UInt8.ofNat (k % 8)).toNat = k % 8 := by simp; omega
        simp [UInt8.toNat_add]
        omega
theorem WAt.len {n : Int} {k : Nat} {acc : List UInt8} (h : WAt n k acc) : acc.length ≤ 4 := by
  obtain ⟨⟨f, h1, h2, h3⟩, _⟩ := h; omega
theorem WAt.done {n : Int} {acc : List UInt8} (h : WAt n 0 acc) : word n = ⟨acc.toArray⟩ ++ ⟨#[107]⟩ := by
  obtain ⟨⟨f, h1, h2, h3⟩, _⟩ := h
  unfold word
  rw [← h3]
  cases f <;> simp [wordL]
theorem wordL_at : ∀ (f : Nat) (n : Int) (k : Nat) (acc : List UInt8), WAt n k acc → k < 8 ^ f → ∃ acc', wordL f k acc = acc' ∧ WAt n 0 acc'
  | 0, n, k, acc, h, hk => by
    obtain rfl : k = 0 := by simpa using hk
    exact ⟨acc, rfl, h⟩
  | f + 1, n, k, acc, h, hk => by
    unfold wordL
    split
    · rename_i hp
      exact wordL_at f n _ _ (h.next hp) (by rw [Nat.pow_succ] at hk; omega)
    · obtain rfl : k = 0 := by omega
      exact ⟨acc, rfl, h⟩
theorem word_spec (n : Int) : Low (word n).data.toList ∧ 1 ≤ (word n).size ∧ (word n).size ≤ 8 := by
  obtain ⟨acc, _, h⟩ := wordL_at 4 n _ _ (WAt.start n) (by omega)
  rw [h.done]
  have := h.len
  refine ⟨fun c hc => ?_, ?_, ?_⟩
  · simp at hc
    rcases hc with hc | hc
    · exact h.low c hc
    · subst hc; decide
  · simp [ByteArray.size_append, ByteArray.size]
  · simp [ByteArray.size_append, ByteArray.size]; omega
theorem low_at {s : ByteArray} (h : Low s.data.toList) : ∀ i, i ≤ s.size → At s i i
  | 0, _ => At.start s
  | i + 1, hi => by
    have hlt : i < s.size := by omega
    have ih := low_at h i (by omega)
    have hb : (s[i]'hlt).toNat < 128 := (h _ (by
      have := List.getElem_mem (l := s.data.toList) (n := i) (by simpa using hlt)
      exact this)).2
    have hd := decode_ascii s i hlt hb
    have ho : okAt s i = true := by simp [okAt, hd]; omega
    have hw : wd s i = 1 := by simp [wd, hd]
    have := ih.next hlt ho
    rwa [hw] at this
theorem low_check {s : ByteArray} (h : Low s.data.toList) (h1 : 1 ≤ s.size) (h8 : s.size ≤ 8) : checkB s = true := by
  have hr := (low_at h s.size (Nat.le_refl _)).done (by omega)
  rw [check_eq]
  unfold rcheckB lim bytesOk
  rw [hr]
  simp only [Bool.and_eq_true, List.all_eq_true, decide_eq_true_eq]
  exact ⟨fun c hc => (h c hc).1, by omega, by omega⟩
theorem word_check (n : Int) : checkB (word n) = true := low_check (word_spec n).1 (word_spec n).2.1 (word_spec n).2.2
end Go.Proofs.Ytfalbocgnmlncaa.K
