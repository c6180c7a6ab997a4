/- Which events may be written: Check, and the reference's, at any event. -/
import Derived.Test.YtbdejgbjelfbeaaLCheck4
set_option linter.unusedSimpArgs false
set_option linter.unusedVariables false
namespace Go.Proofs.Ytbdejgbjelfbeaa
open Go.RowKit R
theorem head_parts {e : Event} (h : L.headB e = true) : L.kindB e = true ∧ 0 ≤ e.client ∧ e.client ≤ 1000 ∧ K.checkB e.key = true ∧ e.seen.length ≤ 64 := by
  simpa [L.headB, and_assoc] using h
theorem lcheck_any (e : Event) (v : Value) (Kb : Blocks) (w : World) (hks : e.key.size ≤ 9223372036854775807) (h : Sl Kb w v e.seen) :
    Calls Try.prog 14 #[e.val v] w fun r w' => r = .returned (.bool (L.check e)) ∧ Ev.Ext w w' := by
  obtain ⟨kind, client, key, n, s, seen⟩ := e
  cases hh : L.headB ⟨kind, client, key, n, s, seen⟩
  · obtain ⟨a, cap, rfl⟩ := h.form
    have := lcheck_no kind client n s key seen a cap w hks h.len_le hh
    unfold L.check; rw [hh]; exact this
  · obtain ⟨h1, h2, h3, h4, h5⟩ := head_parts hh
    have := lcheck_yes kind client n s key seen v Kb w hks h h2 h3 h4 h5 h1
    unfold L.check; rw [hh]; exact this
theorem rlcheck_any (e : Event) (v : Value) (Kb : Blocks) (w : World) (hks : e.key.size ≤ 9223372036854775807) (h : Sl Kb w v e.seen) :
    Calls Try.prog 15 #[e.val v] w fun r w' => r = .returned (.bool (L.check e)) ∧ Ev.Ext w w' := by
  obtain ⟨kind, client, key, n, s, seen⟩ := e
  cases hh : L.headB ⟨kind, client, key, n, s, seen⟩
  · obtain ⟨a, cap, rfl⟩ := h.form
    have := rlcheck_no kind client n s key seen a cap w hks h.len_le hh
    unfold L.check; rw [hh]; exact this
  · obtain ⟨h1, h2, h3, h4, h5⟩ := head_parts hh
    have hk : (kind = 1 ∧ V.stampB n s = true) ∨ (kind = 2 ∧ n = 0 ∧ s = 0 ∧ V.stampB n s = false) ∨ (kind = 2 ∧ (n == 0) = false ∧ V.stampB n s = true) := by
      have hz : V.stampB 0 s = false := by simp [V.stampB]
      simp only [L.kindB, Bool.or_eq_true, Bool.and_eq_true, beq_iff_eq] at h1
      rcases h1 with ⟨h1, h6⟩ | ⟨h1, ⟨h6, h7⟩ | h6⟩
      · exact .inl ⟨h1, h6⟩
      · exact .inr (.inl ⟨h1, h6, h7, by rw [h6]; exact hz⟩)
      · refine .inr (.inr ⟨h1, ?_, h6⟩)
        have := V.stampB_iff.1 h6
        simp; omega
    have := rlcheck_yes kind client n s key seen v Kb w hks h h2 h3 h4 h5 hk
    unfold L.check; rw [hh]; exact this
end Go.Proofs.Ytbdejgbjelfbeaa
