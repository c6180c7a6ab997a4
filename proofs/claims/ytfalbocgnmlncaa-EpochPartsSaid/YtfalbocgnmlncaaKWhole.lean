/- Whole. -/
import Derived.Test.YtfalbocgnmlncaaKFind
set_option linter.unusedSimpArgs false
set_option linter.unusedVariables false
namespace Go.Proofs.Ytfalbocgnmlncaa
open Go.RowKit R
def wholeF : ByteArray → Bool → List Rng → Bool
  | at', _, [] => at'.toList.isEmpty
  | at', fst, r :: l => K.goodB r.f r.t && (r.f.toList == at'.toList && ((fst || !at'.toList.isEmpty) && wholeF r.t false l))
def whole (l : List Rng) : Bool := !l.isEmpty && wholeF ⟨#[]⟩ true l
/-- where Whole's loop stands -/
def WhAt (l : List Rng) (k : Nat) (at' : ByteArray) : Prop := whole l = (!l.isEmpty && wholeF at' (k == 0) (l.drop k))
theorem WhAt.start (l : List Rng) : WhAt l 0 ⟨#[]⟩ := rfl
theorem WhAt.step {l : List Rng} {k : Nat} {at' : ByteArray} (h : WhAt l k at') (hk : k < l.length) :
    whole l = (K.goodB l[k].f l[k].t && (l[k].f.toList == at'.toList && (((k == 0) || !at'.toList.isEmpty) && (!l.isEmpty && wholeF l[k].t false (l.drop (k + 1)))))) := by
  unfold WhAt at h
  rw [h, List.drop_eq_getElem_cons hk, wholeF]
  cases l.isEmpty <;> cases K.goodB l[k].f l[k].t <;> cases (l[k].f.toList == at'.toList) <;> simp
theorem WhAt.next {l : List Rng} {k : Nat} {at' : ByteArray} (h : WhAt l k at') (hk : k < l.length) (hg : K.goodB l[k].f l[k].t = true) (he : (l[k].f.toList == at'.toList) = true) (hf : ((k == 0) || !at'.toList.isEmpty) = true) : WhAt l (k + 1) l[k].t := by
  have := h.step hk
  rw [hg, he, hf] at this
  simpa [WhAt] using this
theorem WhAt.no {l : List Rng} {k : Nat} {at' : ByteArray} (h : WhAt l k at') (hk : k < l.length) (hg : K.goodB l[k].f l[k].t = false ∨ (l[k].f.toList == at'.toList) = false ∨ ((k == 0) || !at'.toList.isEmpty) = false) : whole l = false := by
  have := h.step hk
  rcases hg with hg | hg | hg <;> rw [hg] at this <;> simpa using this
theorem WhAt.done {l : List Rng} {at' : ByteArray} (h : WhAt l l.length at') : whole l = (!l.isEmpty && at'.toList.isEmpty) := by
  unfold WhAt at h
  rw [h, List.drop_length, wholeF]
set_option maxHeartbeats 1000000 in
theorem whole_any (v : Value) (l : List Rng) (Kb : Blocks) (w : World) (h : Sl Kb w v l) :
    Calls Try.prog 54 #[v] w fun e w' => e = .returned (.bool (whole l)) ∧ Ev.Ext w w' := by
  obtain ⟨a, cap, rfl⟩ := h.form
  have hlen := h.len_le
  go_enter Try.func54, Try.ntmps54
  go_wp2_with fail
  go_loopw [2, 3, 8] (fun r s i wr => ∃ (k : Nat) (at' : ByteArray), r = .bool false ∧ s = .string at' ∧ i = .int .i64 k ∧ k ≤ l.length ∧ Ev.Ext w wr ∧ WhAt l k at') (fun _ _ i _ => l.length - (intOf i).toNat)
  case atStart => exact ⟨0, ⟨#[]⟩, rfl, rfl, rfl, by omega, Ev.Ext.refl _, WhAt.start l⟩
  case round =>
    obtain ⟨k, at', rfl, rfl, rfl, hk, hext, hat⟩ := hrel
    by_cases h1 : k < l.length
    · obtain ⟨b, o, rfl, hKb, hs0, hs1, c0, c1⟩ := (rng_cells h).2 k l[k] (by simp [h1])
      have c0 := cell_later hext c0
      have c1 := cell_later hext c1
      go_wp2_with fail
      refine (good_any _ _ hs0 hs1 _).mono ?_; rintro e w3 ⟨rfl, hb3⟩
      obtain ⟨d0, d1⟩ := two_cells hb3
      have hext3 := hext.trans (below_box hb3)
      clear hb3
      cases hg : K.goodB l[k].f l[k].t
      · go_wp2
        go_ret
        rw [hat.no h1 (.inl hg)]
        exact ⟨rfl, hext3⟩
      cases he : (l[k].f.toList == at'.toList)
      · go_wp2
        go_ret
        rw [hat.no h1 (.inr (.inl he))]
        exact ⟨rfl, hext3⟩
      cases hf : ((k == 0) || !at'.toList.isEmpty)
      · have h0 : 0 < k ∧ at'.toList.isEmpty = true := by simp at hf; exact ⟨by omega, by simpa using hf.2⟩
        obtain ⟨h0, h0'⟩ := h0
        have HF := Lib.hid hf
        clear hf
        go_wp2
        go_ret
        rw [hat.no h1 (.inr (.inr HF.out))]
        exact ⟨rfl, hext3⟩
      · have hn := hat.next h1 hg he hf
        have HN := Lib.hid hn
        clear hn
        by_cases h0 : k = 0
        · subst h0
          clear hf
          go_wp2
          go_roundw
          case rel => exact ⟨0 + 1, _, rfl, rfl, by go_num, by omega, hext3, HN.out⟩
          case measure => simp [intOf]; omega
        · have hp : 0 < k := by omega
          have h0' : at'.toList.isEmpty = false := by simpa [h0] using hf
          clear hf h0
          go_wp2
          go_roundw
          case rel => exact ⟨k + 1, _, rfl, rfl, by go_num, by omega, hext3, HN.out⟩
          case measure => simp [intOf]; omega
    · obtain rfl : k = l.length := by omega
      have hd := hat.done
      by_cases h0 : l.length = 0
      · have he : l.isEmpty = true := by simpa using h0
        rw [he] at hd
        have HD := Lib.hid hd
        have h00 : ¬ (0 : Int) < l.length := by omega
        clear hd he h0
        go_wp2
        go_ret
        rw [HD.out]
        exact ⟨by simp, hext⟩
      · have he : l.isEmpty = false := by simpa using h0
        rw [he] at hd
        have HD := Lib.hid hd
        have h00 : (0 : Int) < l.length := by omega
        clear hd he h0
        go_wp2
        all_goals (go_ret; rw [HD.out]; exact ⟨by simp_all, hext⟩)
end Go.Proofs.Ytfalbocgnmlncaa
