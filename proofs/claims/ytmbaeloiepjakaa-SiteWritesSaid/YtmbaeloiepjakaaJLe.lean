
/- Law 13: ShardOwns. -/
import Derived.Test.YtmbaeloiepjakaaJLc
set_option linter.unusedSimpArgs false
set_option linter.unusedVariables false
namespace Go.Proofs.Ytmbaeloiepjakaa
open Go.RowKit A R
open A.RowT
namespace J
/-- What is kept is owned, and something. -/
structure Own (m : Nat) (rs : List Rng) (cs : SC) : Prop where
  rise : RiseC cs
  sm : Sm m cs
  own : ∀ p ∈ cs, ¬ findR rs p.1 < 0 ∧ p.2 ≠ []
theorem own_nil (rs : List Rng) : Own 0 rs [] := ⟨rise_nil, sm_nil 0, fun p hp => by cases hp⟩
theorem Own.mono {m m' : Nat} {rs : List Rng} {cs : SC} (h : Own m rs cs) (hm : m ≤ m') : Own m' rs cs := ⟨h.rise, h.sm.mono hm, h.own⟩
theorem own_put {m : Nat} {rs : List Rng} {cs : SC} (h : Own m rs cs) (v : Ver) : Own (m + 1) rs (sput rs cs v).1 := by
  refine ⟨sput_rise h.rise v, sput_sm h.sm v, fun p hp => ?_⟩
  cases hb : (sput rs cs v).2 with
  | false => rw [sput_no hb] at hp; exact h.own p hp
  | true =>
    obtain ⟨l, hf, hl, he⟩ := sput_some hb
    rw [he] at hp
    rcases mem_setC _ _ _ _ hp with rfl | hp
    · refine ⟨hf, fun e => ?_⟩
      have := put_len hl
      have e : l = [] := e
      rw [e] at this; simp at this
    · exact h.own p hp
theorem own_move {m : Nat} {rs : List Rng} {cs : SC} (h : Own m rs cs) (rs' : List Rng) : Own m rs' (smove cs rs') := by
  refine ⟨smove_rise h.rise rs', smove_sm h.sm rs', fun p hp => ?_⟩
  unfold smove at hp
  obtain ⟨h1, h2⟩ := List.mem_filter.1 hp
  simp only [decide_eq_true_eq] at h2
  exact ⟨by omega, (h.own p h1).2⟩
theorem head_last {l : List Ver} (h : l ≠ []) : head l = some (l.getLast h) := by
  have hp : 0 < l.length := List.length_pos_iff.2 h
  unfold head
  have h1 : ((l.length : Int) - 1) = ((l.length - 1 : Nat) : Int) := by omega
  rw [h1, told_at (by omega), List.getLast_eq_getElem]
theorem head_keeps {l : List Ver} (h : l ≠ []) (n s : Int) (pins : List (Int × Int)) : keeps l n s pins (l.getLast h) = true := by
  unfold keeps isO
  rw [head_last h]
  simp
theorem clean_ne {l : List Ver} (h : l ≠ []) (n s : Int) (pins : List (Int × Int)) : clean l n s pins ≠ [] := by
  intro e
  have : l.getLast h ∈ clean l n s pins := List.mem_filter.2 ⟨List.getLast_mem h, head_keeps h n s pins⟩
  rw [e] at this; cases this
theorem sclean_keys (cs : SC) (n s : Int) (pins : List Dep) : (sclean cs n s pins).map (·.1) = cs.map (·.1) := by
  unfold sclean; rw [List.map_map]; rfl
theorem sclean_rise {cs : SC} (h : RiseC cs) (n s : Int) (pins : List Dep) : RiseC (sclean cs n s pins) := by unfold RiseC; rw [sclean_keys]; exact h
theorem sclean_sm {m : Nat} {cs : SC} (h : Sm m cs) (n s : Int) (pins : List Dep) : Sm m (sclean cs n s pins) := by
  refine ⟨by unfold sclean; rw [List.length_map]; exact h.1, fun p hp => ?_⟩
  obtain ⟨q, hq, rfl⟩ := List.mem_map.1 hp
  exact ⟨Nat.le_trans (List.length_filter_le ..) (h.2 q hq).1, (h.2 q hq).2⟩
theorem own_clean {m : Nat} {rs : List Rng} {cs : SC} (h : Own m rs cs) (n s : Int) (pins : List Dep) : Own m rs (sclean cs n s pins) := by
  refine ⟨sclean_rise h.rise n s pins, sclean_sm h.sm n s pins, fun p hp => ?_⟩
  obtain ⟨q, hq, rfl⟩ := List.mem_map.1 hp
  exact ⟨(h.own q hq).1, clean_ne (h.own q hq).2 _ _ _⟩
theorem Own.at {m : Nat} {rs : List Rng} {cs : SC} (h : Own m rs cs) {k : Nat} (hk : k < (keysC cs).length) : ¬ findR rs ((keysC cs).getD k default) < 0 ∧ (shead cs ((keysC cs).getD k default)).isSome = true ∧ (have' cs).getD k default = ⟨(keysC cs).getD k default, ((shead cs ((keysC cs).getD k default)).getD default).n, ((shead cs ((keysC cs).getD k default)).getD default).s⟩ := by
  have hk' : k < cs.length := by unfold keysC at hk; simpa using hk
  have hg := keys_at cs hk'
  have ho := h.own _ (List.getElem_mem hk')
  have hl : getC cs cs[k].1 = cs[k].2 := by unfold getC; rw [look_mem h.rise (List.getElem_mem hk')]; rfl
  refine ⟨by rw [hg]; exact ho.1, ?_, ?_⟩
  · unfold shead
    rw [hg, hl, head_last ho.2]; rfl
  · unfold have'
    rw [List.getD_eq_getElem?_getD, List.getElem?_map, List.getElem?_eq_getElem hk, show (keysC cs).getD k default = (keysC cs)[k] from by simp [hk]]
    rfl
theorem keys_lt {cs : SC} (h : RiseC cs) {k : Nat} (hk : k < (keysC cs).length) (h0 : 0 < k) : Op.bytesLess ((keysC cs).getD (k - 1) default).toList ((keysC cs).getD k default).toList = true := by
  have := List.pairwise_iff_getElem.1 h (k - 1) k (by unfold keysC at hk; omega) hk (by omega)
  rw [show (keysC cs).getD (k - 1) default = (keysC cs)[k - 1]'(by omega) from by simp [show k - 1 < (keysC cs).length by omega], show (keysC cs).getD k default = (keysC cs)[k] from by simp [hk]]
  exact this
theorem have_len (cs : SC) : (have' cs).length = (keysC cs).length := by unfold have'; simp
end J
end Go.Proofs.Ytmbaeloiepjakaa
