import Derived.Test.YtjjamghmcihlnaaKPlain4
set_option linter.unusedSimpArgs false
set_option linter.unusedVariables false
namespace Go.Proofs.Ytjjamghmcihlnaa.K
open Go
/-! ### keys of so many runes -/
def some6 (k : Nat) : List UInt8 := match k with
  | 0 => [97] | 1 => [195, 169] | 2 => [226, 130, 172] | 3 => [240, 159, 152, 128] | 4 => [126] | _ => [239, 191, 191]
theorem bt_mid (A B : List UInt8) (p : List UInt8) (j : Nat) (h : j < p.length) : bt ⟨(A ++ p ++ B).toArray⟩ (A.length + j) = (p.getD j 0).toNat := by
  have hs : A.length + j < (⟨(A ++ p ++ B).toArray⟩ : ByteArray).size := by simp [ByteArray.size]; omega
  unfold bt
  rw [get_list _ _ hs]
  simp [List.getD, h, List.getElem_append_left, List.getElem_append_right]
theorem size_mid (l : List UInt8) : (⟨l.toArray⟩ : ByteArray).size = l.length := by simp [ByteArray.size]
theorem piece (A B : List UInt8) (k : Nat) : okAt ⟨(A ++ some6 k ++ B).toArray⟩ A.length = true ∧ wd ⟨(A ++ some6 k ++ B).toArray⟩ A.length = (some6 k).length ∧ 1 ≤ (some6 k).length ∧ (some6 k).length ≤ 4 ∧ (∀ c ∈ some6 k, 33 ≤ c.toNat) := by
  have hb := bt_mid A B (some6 k)
  have hsz := size_mid (A ++ some6 k ++ B)
  have key : ∀ (p : List UInt8), (p = [97] ∨ p = [195, 169] ∨ p = [226, 130, 172] ∨ p = [240, 159, 152, 128] ∨ p = [126] ∨ p = [239, 191, 191]) → (∀ j, j < p.length → bt ⟨(A ++ p ++ B).toArray⟩ (A.length + j) = (p.getD j 0).toNat) → (⟨(A ++ p ++ B).toArray⟩ : ByteArray).size = (A ++ p ++ B).length →
      okAt ⟨(A ++ p ++ B).toArray⟩ A.length = true ∧ wd ⟨(A ++ p ++ B).toArray⟩ A.length = p.length ∧ 1 ≤ p.length ∧ p.length ≤ 4 ∧ (∀ c ∈ p, 33 ≤ c.toNat) := by
    intro p hp hb hsz
    unfold okAt wd
    rw [decode_bt]
    generalize (⟨(A ++ p ++ B).toArray⟩ : ByteArray) = s at *
    simp only [List.length_append] at hsz
    rcases hp with rfl | rfl | rfl | rfl | rfl | rfl
    · have h0 := hb 0 (by decide)
      simp only [Nat.add_zero] at h0
      rw [h0]; exact ⟨rfl, rfl, by decide, by decide, by decide⟩
    · have h0 := hb 0 (by decide)
      have h1 := hb 1 (by decide)
      simp only [Nat.add_zero, List.length_cons, List.length_nil] at h0 hsz
      rw [h0, h1, show decide (A.length + 1 < s.size) = true by simp; omega]
      generalize bt s (A.length + 2) = x
      generalize bt s (A.length + 3) = y
      exact ⟨rfl, rfl, by decide, by decide, by decide⟩
    · have h0 := hb 0 (by decide)
      have h1 := hb 1 (by decide)
      have h2 := hb 2 (by decide)
      simp only [Nat.add_zero, List.length_cons, List.length_nil] at h0 hsz
      rw [h0, h1, h2, show decide (A.length + 1 < s.size) = true by simp; omega, show decide (A.length + 2 < s.size) = true by simp; omega]
      generalize bt s (A.length + 3) = y
      exact ⟨rfl, rfl, by decide, by decide, by decide⟩
    · have h0 := hb 0 (by decide)
      have h1 := hb 1 (by decide)
      have h2 := hb 2 (by decide)
      have h3 := hb 3 (by decide)
      simp only [Nat.add_zero, List.length_cons, List.length_nil] at h0 hsz
      rw [h0, h1, h2, h3, show decide (A.length + 1 < s.size) = true by simp; omega, show decide (A.length + 2 < s.size) = true by simp; omega, show decide (A.length + 3 < s.size) = true by simp; omega]
      exact ⟨rfl, rfl, by decide, by decide, by decide⟩
    · have h0 := hb 0 (by decide)
      simp only [Nat.add_zero] at h0
      rw [h0]; exact ⟨rfl, rfl, by decide, by decide, by decide⟩
    · have h0 := hb 0 (by decide)
      have h1 := hb 1 (by decide)
      have h2 := hb 2 (by decide)
      simp only [Nat.add_zero, List.length_cons, List.length_nil] at h0 hsz
      rw [h0, h1, h2, show decide (A.length + 1 < s.size) = true by simp; omega, show decide (A.length + 2 < s.size) = true by simp; omega]
      generalize bt s (A.length + 3) = y
      exact ⟨rfl, rfl, by decide, by decide, by decide⟩
  refine key (some6 k) ?_ hb hsz
  unfold some6
  split <;> simp
/-- A text made of so many of the six pieces. -/
inductive Made : List UInt8 → Nat → Prop
  | nil : Made [] 0
  | snoc (l : List UInt8) (n k : Nat) : Made l n → Made (l ++ some6 k) (n + 1)
theorem Made.at {l : List UInt8} {n : Nat} (h : Made l n) : ∀ B : List UInt8, At ⟨(l ++ B).toArray⟩ l.length n := by
  induction h with
  | nil => intro B; exact At.start _
  | snoc l n k hm ih =>
    intro B
    have h1 := ih (some6 k ++ B)
    obtain ⟨p1, p2, p3, p4, _⟩ := piece l B k
    rw [List.append_assoc] at p1 p2
    have := h1.next (by rw [size_mid]; simp; omega) p1
    rw [p2] at this
    rw [List.append_assoc, List.length_append]
    exact this
theorem Made.low {l : List UInt8} {n : Nat} (h : Made l n) : ∀ c ∈ l, 33 ≤ c.toNat := by
  induction h with
  | nil => intro c hc; cases hc
  | snoc l n k hm ih =>
    intro c hc
    rcases List.mem_append.1 hc with hc | hc
    · exact ih c hc
    · exact (piece [] [] k).2.2.2.2 c hc
theorem Made.small {l : List UInt8} {n : Nat} (h : Made l n) : l.length ≤ 4 * n := by
  induction h with
  | nil => simp
  | snoc l n k hm ih =>
    have := (piece [] [] k).2.2.2.1
    simp only [List.length_append]; omega
theorem Made.count {l : List UInt8} {n : Nat} (h : Made l n) : runes ⟨l.toArray⟩ = n := by
  have := h.at []
  rw [List.append_nil] at this
  exact this.done (by rw [size_mid]; omega)
theorem Made.check {l : List UInt8} {n : Nat} (h : Made l n) : checkB ⟨l.toArray⟩ = (decide (1 ≤ (n : Int)) && decide ((n : Int) ≤ 8)) := by
  rw [check_eq]
  have hb : bytesOk ⟨l.toArray⟩ = true := by
    unfold bytesOk
    simp only [List.all_eq_true, decide_eq_true_eq]
    exact fun c hc => h.low c (by simpa using hc)
  unfold rcheckB lim
  rw [hb, h.count]; simp
theorem Made.bad {l : List UInt8} {n : Nat} (h : Made l n) (c : UInt8) (hc : c = 255 ∨ c = 195) : runes ⟨(l ++ [c]).toArray⟩ = -1 := by
  refine (h.at [c]).bad (by rw [size_mid]; simp) ?_
  have hb := bt_mid l [] [c] 0 (by simp)
  rw [List.append_nil, Nat.add_zero] at hb
  have hsz := size_mid (l ++ [c])
  unfold okAt
  rw [decode_bt, hb]
  generalize (⟨(l ++ [c]).toArray⟩ : ByteArray) = s at *
  rw [show decide (l.length + 1 < s.size) = false by simp at hsz ⊢; omega]
  rcases hc with rfl | rfl <;> rfl
theorem check_of_bad {s : ByteArray} (h : Go.Proofs.Ytjjamghmcihlnaa.K.runes s = -1) : checkB s = false := by unfold checkB lim; rw [h]; rfl
theorem Made.blank {l : List UInt8} {n : Nat} (h : Made l n) : checkB ⟨(l ++ [32]).toArray⟩ = false := by
  rw [check_eq]
  refine rcheck_no (i := l.length) (by rw [size_mid]; simp) ?_
  have hb := bt_mid l [] [32] 0 (by simp)
  rw [List.append_nil, Nat.add_zero] at hb
  rw [hb]; decide
end Go.Proofs.Ytjjamghmcihlnaa.K
